/- Texts of this repo, joined, without what this claim does not use: ExtMerge, ExtMerge2, ExtAdd, ExtAdd2, P6, P10, ExtCheck, Rises. -/
import Derived.Test.YtmjhgeinhhhodaaDAggTurns1
import Derived.Test.YtmjhgeinhhhodaaDAggTurns2
section
namespace Go.Proofs.Ytmjhgeinhhhodaa.P
set_option linter.unusedVariables false
set_option linter.unusedSimpArgs false
open Go.RowKit Go.Proofs.YtmjhgeinhhhodaaW.PrintWords Go.Proofs.YtmjhgeinhhhodaaW.PrintLast Go.Proofs.YtmjhgeinhhhodaaW.PrintMore Go.Proofs.Ytmjhgeinhhhodaa.Lib
def Merged (w : World) (n v : Int) (l : List ByteArray) (e : Ending) (w' : World) : Prop := ∃ v2_ : Value, e = .returned (.agg #[.int .u64 n, .int .i64 v, v2_]) ∧ Kd.R Kd.string 9 w' w.heap.size (fun _ => True) v2_ l ∧ Below w.heap.size w w'
set_option maxRecDepth 100000 in
set_option maxHeartbeats 400000 in
theorem merge_out (k j n v n2 v2 : Int) (A A2 : Option Addr) (l c l2 c2 : Nat) (w : World) (HC : Knows k j #[.bool false, .nilFunc, .nilFunc, .nilFunc] false) :
    Calls Try.prog 17 #[.agg #[.int .i64 k, .int .i64 j], .agg #[.int .u64 n, .int .i64 v, .slice A l c], .agg #[.int .u64 n2, .int .i64 v2, .slice A2 l2 c2]] w (Merged w 0 0 []) := by
  go_enter Try.func17, Try.ntmps17
  go_wp2_with (first
    | ((with_reducible refine gate_dst (N := 3) rfl ?_); refine box_event ?hg (N := 3) ?hd (cs := #[.int .i64 k, .int .i64 j]) (t := 23) ?hr ?_; (case hd => rfl); (case hg => rfl); (case hr => first | (go_simp; done) | (go_simp; rfl)); intro g1 hg w1 hbox hb; have GE1 := Aside0.mk (Nat.le_of_eq hg.symm); have BK1 := Aside0.mk hbox; have HX1 := Aside0.mk hb; clear hg hbox hb)
    | ((with_reducible refine gate_dst (N := 4) rfl ?_); refine box_event ?hg (N := 4) ?hd (cs := #[.int .u64 n, .int .i64 v, .slice A l c]) (t := 33) ?hr ?_; (case hd => rfl); (case hg => rfl); (case hr => first | (go_simp; done) | (go_simp; rfl)); intro g2 hg w2 hbox hb; have GE2 := Aside0.mk (Nat.le_of_eq hg.symm); have BK2 := Aside0.mk hbox; have HX2 := Aside0.mk hb; clear hg hbox hb)
    | (((with_reducible refine gate_dst (N := 5) rfl ?_); refine box_event ?hg (N := 5) ?hd (cs := #[.int .u64 n2, .int .i64 v2, .slice A2 l2 c2]) (t := 33) ?hr ?_; (case hd => rfl); (case hg => rfl); (case hr => first | (go_simp; done) | (go_simp; rfl)); intro g3 hg w3 hbox hb; have GE3 := Aside0.mk (Nat.le_of_eq hg.symm); have BK3 := Aside0.mk hbox; have HX3 := Aside0.mk hb; clear hg hbox hb); have BK1b := Aside0.mk (blk_below (blk_below BK1.out HX2.out) HX3.out); have BK2b := Aside0.mk (blk_below BK2.out HX3.out); have HB3 := Aside0.mk (below_then (below_then HX1.out HX1.out.size HX2.out) (Nat.le_trans HX1.out.size HX2.out.size) HX3.out); have HG2 := Aside0.mk (Nat.le_trans HX1.out.size GE2.out))
    | (((with_reducible refine gate_dst (N := 6) rfl ?_); refine box_event ?hg (N := 6) ?hd (cs := #[.int .u64 0, .int .i64 0, .slice none 0 0]) (t := 33) ?hr ?_; (case hd => rfl); (case hg => rfl); (case hr => first | (go_simp; done) | (go_simp; rfl)); intro g4 hg w4 hbox hb; have GE4 := Aside0.mk (Nat.le_of_eq hg.symm); have BK4 := Aside0.mk hbox; have HX4 := Aside0.mk hb; clear hg hbox hb); have BK1c := Aside0.mk (blk_below BK1b.out HX4.out); have BK2c := Aside0.mk (blk_below BK2b.out HX4.out); have BK3c := Aside0.mk (blk_below BK3.out HX4.out); have HB4 := Aside0.mk (below_then HB3.out HB3.out.size HX4.out); have HG4 := Aside0.mk (Nat.le_trans HB3.out.size GE4.out); (have hg1_0 : w4.cell? ⟨g1, 0, none⟩ = some (.int .i64 k) := (blk_cell BK1c.out 0).trans rfl; have hfg1_0 := blk_frozen BK1c.out 0; have hg1_1 : w4.cell? ⟨g1, 1, none⟩ = some (.int .i64 j) := (blk_cell BK1c.out 1).trans rfl; have hfg1_1 := blk_frozen BK1c.out 1); have hn24 : g2 ≠ g4 := (by have := blk_lt BK2b.out; have := GE4.out; omega); have hn34 : g3 ≠ g4 := (by have := blk_lt BK3.out; have := GE4.out; omega); have hn23 : g2 ≠ g3 := (by have := blk_lt BK2.out; have := GE3.out; omega))
    | (go_at_call 27; refine (HC _).mono ?_; rintro e w5 ⟨rfl, hb5⟩; have BK4b := Aside0.mk (blk_below BK4.out hb5); have BK2d := Aside0.mk (blk_below BK2c.out hb5); have BK3d := Aside0.mk (blk_below BK3c.out hb5); have HB5 := Aside0.mk (below_then HB4.out HB4.out.size hb5); clear hb5; clear hg1_0 hfg1_0 hg1_1 hfg1_1)
    | (((with_reducible refine gate_dst (N := 7) rfl ?_); refine box_event ?hg (N := 7) ?hd (cs := #[.bool false, .nilFunc, .nilFunc, .nilFunc]) (t := 61) ?hr ?_; (case hd => rfl); (case hg => rfl); (case hr => first | (go_simp; done) | (go_simp; rfl)); intro g6 hg w6 hbox hb; have GE6 := Aside0.mk (Nat.le_of_eq hg.symm); have BK6 := Aside0.mk hbox; have HX6 := Aside0.mk hb; clear hg hbox hb); have BK4c := Aside0.mk (blk_below BK4b.out HX6.out); have BK2e := Aside0.mk (blk_below BK2d.out HX6.out); have BK3e := Aside0.mk (blk_below BK3d.out HX6.out); have HB6 := Aside0.mk (below_then HB5.out HB5.out.size HX6.out); have HG6 := Aside0.mk (Nat.le_trans HB5.out.size GE6.out); (have hg6_0 : w6.cell? ⟨g6, 0, none⟩ = some (.bool false) := (blk_cell BK6.out 0).trans rfl; have hfg6_0 := blk_frozen BK6.out 0; have hg6_1 : w6.cell? ⟨g6, 1, none⟩ = some (.nilFunc) := (blk_cell BK6.out 1).trans rfl; have hfg6_1 := blk_frozen BK6.out 1; have hg6_2 : w6.cell? ⟨g6, 2, none⟩ = some (.nilFunc) := (blk_cell BK6.out 2).trans rfl; have hfg6_2 := blk_frozen BK6.out 2; have hg6_3 : w6.cell? ⟨g6, 3, none⟩ = some (.nilFunc) := (blk_cell BK6.out 3).trans rfl; have hfg6_3 := blk_frozen BK6.out 3); (have hg4_0 : w6.cell? ⟨g4, 0, none⟩ = some (.int .u64 0) := (blk_cell BK4c.out 0).trans rfl; have hfg4_0 := blk_frozen BK4c.out 0; have hg4_1 : w6.cell? ⟨g4, 1, none⟩ = some (.int .i64 0) := (blk_cell BK4c.out 1).trans rfl; have hfg4_1 := blk_frozen BK4c.out 1; have hg4_2 : w6.cell? ⟨g4, 2, none⟩ = some (.slice none 0 0) := (blk_cell BK4c.out 2).trans rfl; have hfg4_2 := blk_frozen BK4c.out 2); (have hg2_0 : w6.cell? ⟨g2, 0, none⟩ = some (.int .u64 n) := (blk_cell BK2e.out 0).trans rfl; have hfg2_0 := blk_frozen BK2e.out 0; have hg2_1 : w6.cell? ⟨g2, 1, none⟩ = some (.int .i64 v) := (blk_cell BK2e.out 1).trans rfl; have hfg2_1 := blk_frozen BK2e.out 1; have hg2_2 : w6.cell? ⟨g2, 2, none⟩ = some (.slice A l c) := (blk_cell BK2e.out 2).trans rfl; have hfg2_2 := blk_frozen BK2e.out 2); (have hg3_0 : w6.cell? ⟨g3, 0, none⟩ = some (.int .u64 n2) := (blk_cell BK3e.out 0).trans rfl; have hfg3_0 := blk_frozen BK3e.out 0; have hg3_1 : w6.cell? ⟨g3, 1, none⟩ = some (.int .i64 v2) := (blk_cell BK3e.out 1).trans rfl; have hfg3_1 := blk_frozen BK3e.out 1; have hg3_2 : w6.cell? ⟨g3, 2, none⟩ = some (.slice A2 l2 c2) := (blk_cell BK3e.out 2).trans rfl; have hfg3_2 := blk_frozen BK3e.out 2); have hn46 : g4 ≠ g6 := (by have := blk_lt BK4b.out; have := GE6.out; omega); have hn26 : g2 ≠ g6 := (by have := blk_lt BK2d.out; have := GE6.out; omega); have hn36 : g3 ≠ g6 := (by have := blk_lt BK3d.out; have := GE6.out; omega))
    | fail)
  refine bodyPost_ret (results_cell_row rfl _ _ g4 33 #[.int .u64 0, .int .i64 0, .slice none 0 0] (0, 0) _ rfl (blk_set (blk_set (blk_set (blk_far (blk_far (blk_far (blk_far BK4c.out hn46 _) hn46 _) hn46 _) hn46 _) 0 _) 1 _) 2 _) Try.underlying33 rfl (by kernel_rfl)) rfl ⟨_, rfl, Kd.R_nil _ _ _ _ _, (below_set (below_set (below_set (below_set (below_set (below_set (below_set HB6.out HG6.out) HG6.out) HG6.out) HG6.out) HG4.out) HG4.out) HG4.out)⟩
set_option maxRecDepth 100000 in
set_option maxHeartbeats 400000 in
theorem merge_zero (k j v v2 n n2 : Int) (A A2 : Option Addr) (l c l2 c2 : Nat) (w : World) (ka kb kc kd : Value) (e1 : (n == 0) = true) (e2 : (n2 == 0) = true) (HC : Knows k j #[ka, kb, kc, kd] true)
    (h1 : ka.oneCell' = true) (h2 : kb.oneCell' = true) (h3 : kc.oneCell' = true) (h4 : kd.oneCell' = true) :
    Calls Try.prog 17 #[.agg #[.int .i64 k, .int .i64 j], .agg #[.int .u64 n, .int .i64 v, .slice A l c], .agg #[.int .u64 n2, .int .i64 v2, .slice A2 l2 c2]] w (Merged w 0 0 []) := by
  have sa := store_fact h1
  have sb := store_fact h2
  have sc := store_fact h3
  have sd := store_fact h4
  clear h1 h2 h3 h4
  go_enter Try.func17, Try.ntmps17
  go_wp2_with (first
    | ((with_reducible refine gate_dst (N := 3) rfl ?_); refine box_event ?hg (N := 3) ?hd (cs := #[.int .i64 k, .int .i64 j]) (t := 23) ?hr ?_; (case hd => rfl); (case hg => rfl); (case hr => first | (go_simp; done) | (go_simp; rfl)); intro g1 hg w1 hbox hb; have GE1 := Aside0.mk (Nat.le_of_eq hg.symm); have BK1 := Aside0.mk hbox; have HX1 := Aside0.mk hb; clear hg hbox hb)
    | ((with_reducible refine gate_dst (N := 4) rfl ?_); refine box_event ?hg (N := 4) ?hd (cs := #[.int .u64 n, .int .i64 v, .slice A l c]) (t := 33) ?hr ?_; (case hd => rfl); (case hg => rfl); (case hr => first | (go_simp; done) | (go_simp; rfl)); intro g2 hg w2 hbox hb; have GE2 := Aside0.mk (Nat.le_of_eq hg.symm); have BK2 := Aside0.mk hbox; have HX2 := Aside0.mk hb; clear hg hbox hb)
    | (((with_reducible refine gate_dst (N := 5) rfl ?_); refine box_event ?hg (N := 5) ?hd (cs := #[.int .u64 n2, .int .i64 v2, .slice A2 l2 c2]) (t := 33) ?hr ?_; (case hd => rfl); (case hg => rfl); (case hr => first | (go_simp; done) | (go_simp; rfl)); intro g3 hg w3 hbox hb; have GE3 := Aside0.mk (Nat.le_of_eq hg.symm); have BK3 := Aside0.mk hbox; have HX3 := Aside0.mk hb; clear hg hbox hb); have BK1b := Aside0.mk (blk_below (blk_below BK1.out HX2.out) HX3.out); have BK2b := Aside0.mk (blk_below BK2.out HX3.out); have HB3 := Aside0.mk (below_then (below_then HX1.out HX1.out.size HX2.out) (Nat.le_trans HX1.out.size HX2.out.size) HX3.out); have HG2 := Aside0.mk (Nat.le_trans HX1.out.size GE2.out))
    | (((with_reducible refine gate_dst (N := 6) rfl ?_); refine box_event ?hg (N := 6) ?hd (cs := #[.int .u64 0, .int .i64 0, .slice none 0 0]) (t := 33) ?hr ?_; (case hd => rfl); (case hg => rfl); (case hr => first | (go_simp; done) | (go_simp; rfl)); intro g4 hg w4 hbox hb; have GE4 := Aside0.mk (Nat.le_of_eq hg.symm); have BK4 := Aside0.mk hbox; have HX4 := Aside0.mk hb; clear hg hbox hb); have BK1c := Aside0.mk (blk_below BK1b.out HX4.out); have BK2c := Aside0.mk (blk_below BK2b.out HX4.out); have BK3c := Aside0.mk (blk_below BK3.out HX4.out); have HB4 := Aside0.mk (below_then HB3.out HB3.out.size HX4.out); have HG4 := Aside0.mk (Nat.le_trans HB3.out.size GE4.out); (have hg1_0 : w4.cell? ⟨g1, 0, none⟩ = some (.int .i64 k) := (blk_cell BK1c.out 0).trans rfl; have hfg1_0 := blk_frozen BK1c.out 0; have hg1_1 : w4.cell? ⟨g1, 1, none⟩ = some (.int .i64 j) := (blk_cell BK1c.out 1).trans rfl; have hfg1_1 := blk_frozen BK1c.out 1); have hn24 : g2 ≠ g4 := (by have := blk_lt BK2b.out; have := GE4.out; omega); have hn34 : g3 ≠ g4 := (by have := blk_lt BK3.out; have := GE4.out; omega); have hn23 : g2 ≠ g3 := (by have := blk_lt BK2.out; have := GE3.out; omega))
    | (go_at_call 27; refine (HC _).mono ?_; rintro e w5 ⟨rfl, hb5⟩; have BK4b := Aside0.mk (blk_below BK4.out hb5); have BK2d := Aside0.mk (blk_below BK2c.out hb5); have BK3d := Aside0.mk (blk_below BK3c.out hb5); have HB5 := Aside0.mk (below_then HB4.out HB4.out.size hb5); clear hb5; clear hg1_0 hfg1_0 hg1_1 hfg1_1)
    | (((with_reducible refine gate_dst (N := 7) rfl ?_); refine box_event ?hg (N := 7) ?hd (cs := #[.bool false, .nilFunc, .nilFunc, .nilFunc]) (t := 61) ?hr ?_; (case hd => rfl); (case hg => rfl); (case hr => first | (go_simp; done) | (go_simp; rfl)); intro g6 hg w6 hbox hb; have GE6 := Aside0.mk (Nat.le_of_eq hg.symm); have BK6 := Aside0.mk hbox; have HX6 := Aside0.mk hb; clear hg hbox hb); have BK4c := Aside0.mk (blk_below BK4b.out HX6.out); have BK2e := Aside0.mk (blk_below BK2d.out HX6.out); have BK3e := Aside0.mk (blk_below BK3d.out HX6.out); have HB6 := Aside0.mk (below_then HB5.out HB5.out.size HX6.out); have HG6 := Aside0.mk (Nat.le_trans HB5.out.size GE6.out); (have hg6_0 : w6.cell? ⟨g6, 0, none⟩ = some (.bool false) := (blk_cell BK6.out 0).trans rfl; have hfg6_0 := blk_frozen BK6.out 0; have hg6_1 : w6.cell? ⟨g6, 1, none⟩ = some (.nilFunc) := (blk_cell BK6.out 1).trans rfl; have hfg6_1 := blk_frozen BK6.out 1; have hg6_2 : w6.cell? ⟨g6, 2, none⟩ = some (.nilFunc) := (blk_cell BK6.out 2).trans rfl; have hfg6_2 := blk_frozen BK6.out 2; have hg6_3 : w6.cell? ⟨g6, 3, none⟩ = some (.nilFunc) := (blk_cell BK6.out 3).trans rfl; have hfg6_3 := blk_frozen BK6.out 3); (have hg4_0 : w6.cell? ⟨g4, 0, none⟩ = some (.int .u64 0) := (blk_cell BK4c.out 0).trans rfl; have hfg4_0 := blk_frozen BK4c.out 0; have hg4_1 : w6.cell? ⟨g4, 1, none⟩ = some (.int .i64 0) := (blk_cell BK4c.out 1).trans rfl; have hfg4_1 := blk_frozen BK4c.out 1; have hg4_2 : w6.cell? ⟨g4, 2, none⟩ = some (.slice none 0 0) := (blk_cell BK4c.out 2).trans rfl; have hfg4_2 := blk_frozen BK4c.out 2); (have hg2_0 : w6.cell? ⟨g2, 0, none⟩ = some (.int .u64 n) := (blk_cell BK2e.out 0).trans rfl; have hfg2_0 := blk_frozen BK2e.out 0; have hg2_1 : w6.cell? ⟨g2, 1, none⟩ = some (.int .i64 v) := (blk_cell BK2e.out 1).trans rfl; have hfg2_1 := blk_frozen BK2e.out 1; have hg2_2 : w6.cell? ⟨g2, 2, none⟩ = some (.slice A l c) := (blk_cell BK2e.out 2).trans rfl; have hfg2_2 := blk_frozen BK2e.out 2); (have hg3_0 : w6.cell? ⟨g3, 0, none⟩ = some (.int .u64 n2) := (blk_cell BK3e.out 0).trans rfl; have hfg3_0 := blk_frozen BK3e.out 0; have hg3_1 : w6.cell? ⟨g3, 1, none⟩ = some (.int .i64 v2) := (blk_cell BK3e.out 1).trans rfl; have hfg3_1 := blk_frozen BK3e.out 1; have hg3_2 : w6.cell? ⟨g3, 2, none⟩ = some (.slice A2 l2 c2) := (blk_cell BK3e.out 2).trans rfl; have hfg3_2 := blk_frozen BK3e.out 2); have hn46 : g4 ≠ g6 := (by have := blk_lt BK4b.out; have := GE6.out; omega); have hn26 : g2 ≠ g6 := (by have := blk_lt BK2d.out; have := GE6.out; omega); have hn36 : g3 ≠ g6 := (by have := blk_lt BK3d.out; have := GE6.out; omega))
    | fail)
  refine bodyPost_ret (results_cell_row rfl _ _ g4 33 #[.int .u64 0, .int .i64 0, .slice none 0 0] (0, 0) _ rfl (blk_set (blk_set (blk_set (blk_far (blk_far (blk_far (blk_far BK4c.out hn46 _) hn46 _) hn46 _) hn46 _) 0 _) 1 _) 2 _) Try.underlying33 rfl (by kernel_rfl)) rfl ⟨_, rfl, Kd.R_nil _ _ _ _ _, (below_set (below_set (below_set (below_set (below_set (below_set (below_set HB6.out HG6.out) HG6.out) HG6.out) HG6.out) HG4.out) HG4.out) HG4.out)⟩
set_option maxRecDepth 100000 in
set_option maxHeartbeats 400000 in
theorem merge_left (k j v v2 n n2 : Int) (A A2 : Option Addr) (l c l2 c2 : Nat) (w : World) (ka kb kc kd : Value) (e1 : (n == 0) = false) (e2 : (n2 == 0) = true) (xs : List ByteArray) (hx : Kd.C Kd.string w A l xs) (hl : xs.length ≤ 8796093022208) (HC : Knows k j #[ka, kb, kc, kd] true)
    (h1 : ka.oneCell' = true) (h2 : kb.oneCell' = true) (h3 : kc.oneCell' = true) (h4 : kd.oneCell' = true) :
    Calls Try.prog 17 #[.agg #[.int .i64 k, .int .i64 j], .agg #[.int .u64 n, .int .i64 v, .slice A l c], .agg #[.int .u64 n2, .int .i64 v2, .slice A2 l2 c2]] w (Merged w n v (builtB xs)) := by
  have sa := store_fact h1
  have sb := store_fact h2
  have sc := store_fact h3
  have sd := store_fact h4
  clear h1 h2 h3 h4
  have e3 : (n2 != 0) = false := by rw [bne, e2]; rfl
  have HX := Aside0.mk hx
  have HL := Aside0.mk hl
  clear hx hl
  go_enter Try.func17, Try.ntmps17
  go_wp2_with (first
    | ((with_reducible refine gate_dst (N := 3) rfl ?_); refine box_event ?hg (N := 3) ?hd (cs := #[.int .i64 k, .int .i64 j]) (t := 23) ?hr ?_; (case hd => rfl); (case hg => rfl); (case hr => first | (go_simp; done) | (go_simp; rfl)); intro g1 hg w1 hbox hb; have GE1 := Aside0.mk (Nat.le_of_eq hg.symm); have BK1 := Aside0.mk hbox; have HX1 := Aside0.mk hb; clear hg hbox hb)
    | ((with_reducible refine gate_dst (N := 4) rfl ?_); refine box_event ?hg (N := 4) ?hd (cs := #[.int .u64 n, .int .i64 v, .slice A l c]) (t := 33) ?hr ?_; (case hd => rfl); (case hg => rfl); (case hr => first | (go_simp; done) | (go_simp; rfl)); intro g2 hg w2 hbox hb; have GE2 := Aside0.mk (Nat.le_of_eq hg.symm); have BK2 := Aside0.mk hbox; have HX2 := Aside0.mk hb; clear hg hbox hb)
    | (((with_reducible refine gate_dst (N := 5) rfl ?_); refine box_event ?hg (N := 5) ?hd (cs := #[.int .u64 n2, .int .i64 v2, .slice A2 l2 c2]) (t := 33) ?hr ?_; (case hd => rfl); (case hg => rfl); (case hr => first | (go_simp; done) | (go_simp; rfl)); intro g3 hg w3 hbox hb; have GE3 := Aside0.mk (Nat.le_of_eq hg.symm); have BK3 := Aside0.mk hbox; have HX3 := Aside0.mk hb; clear hg hbox hb); have BK1b := Aside0.mk (blk_below (blk_below BK1.out HX2.out) HX3.out); have BK2b := Aside0.mk (blk_below BK2.out HX3.out); have HB3 := Aside0.mk (below_then (below_then HX1.out HX1.out.size HX2.out) (Nat.le_trans HX1.out.size HX2.out.size) HX3.out); have HG2 := Aside0.mk (Nat.le_trans HX1.out.size GE2.out))
    | (((with_reducible refine gate_dst (N := 6) rfl ?_); refine box_event ?hg (N := 6) ?hd (cs := #[.int .u64 0, .int .i64 0, .slice none 0 0]) (t := 33) ?hr ?_; (case hd => rfl); (case hg => rfl); (case hr => first | (go_simp; done) | (go_simp; rfl)); intro g4 hg w4 hbox hb; have GE4 := Aside0.mk (Nat.le_of_eq hg.symm); have BK4 := Aside0.mk hbox; have HX4 := Aside0.mk hb; clear hg hbox hb); have BK1c := Aside0.mk (blk_below BK1b.out HX4.out); have BK2c := Aside0.mk (blk_below BK2b.out HX4.out); have BK3c := Aside0.mk (blk_below BK3.out HX4.out); have HB4 := Aside0.mk (below_then HB3.out HB3.out.size HX4.out); have HG4 := Aside0.mk (Nat.le_trans HB3.out.size GE4.out); (have hg1_0 : w4.cell? ⟨g1, 0, none⟩ = some (.int .i64 k) := (blk_cell BK1c.out 0).trans rfl; have hfg1_0 := blk_frozen BK1c.out 0; have hg1_1 : w4.cell? ⟨g1, 1, none⟩ = some (.int .i64 j) := (blk_cell BK1c.out 1).trans rfl; have hfg1_1 := blk_frozen BK1c.out 1); have hn24 : g2 ≠ g4 := (by have := blk_lt BK2b.out; have := GE4.out; omega); have hn34 : g3 ≠ g4 := (by have := blk_lt BK3.out; have := GE4.out; omega); have hn23 : g2 ≠ g3 := (by have := blk_lt BK2.out; have := GE3.out; omega))
    | (go_at_call 27; refine (HC _).mono ?_; rintro e w5 ⟨rfl, hb5⟩; have BK4b := Aside0.mk (blk_below BK4.out hb5); have BK2d := Aside0.mk (blk_below BK2c.out hb5); have BK3d := Aside0.mk (blk_below BK3c.out hb5); have HB5 := Aside0.mk (below_then HB4.out HB4.out.size hb5); clear hb5; clear hg1_0 hfg1_0 hg1_1 hfg1_1)
    | (((with_reducible refine gate_dst (N := 7) rfl ?_); refine box_event ?hg (N := 7) ?hd (cs := #[.bool false, .nilFunc, .nilFunc, .nilFunc]) (t := 61) ?hr ?_; (case hd => rfl); (case hg => rfl); (case hr => first | (go_simp; done) | (go_simp; rfl)); intro g6 hg w6 hbox hb; have GE6 := Aside0.mk (Nat.le_of_eq hg.symm); have BK6 := Aside0.mk hbox; have HX6 := Aside0.mk hb; clear hg hbox hb); have BK4c := Aside0.mk (blk_below BK4b.out HX6.out); have BK2e := Aside0.mk (blk_below BK2d.out HX6.out); have BK3e := Aside0.mk (blk_below BK3d.out HX6.out); have HB6 := Aside0.mk (below_then HB5.out HB5.out.size HX6.out); have HG6 := Aside0.mk (Nat.le_trans HB5.out.size GE6.out); (have hg6_0 : w6.cell? ⟨g6, 0, none⟩ = some (.bool false) := (blk_cell BK6.out 0).trans rfl; have hfg6_0 := blk_frozen BK6.out 0; have hg6_1 : w6.cell? ⟨g6, 1, none⟩ = some (.nilFunc) := (blk_cell BK6.out 1).trans rfl; have hfg6_1 := blk_frozen BK6.out 1; have hg6_2 : w6.cell? ⟨g6, 2, none⟩ = some (.nilFunc) := (blk_cell BK6.out 2).trans rfl; have hfg6_2 := blk_frozen BK6.out 2; have hg6_3 : w6.cell? ⟨g6, 3, none⟩ = some (.nilFunc) := (blk_cell BK6.out 3).trans rfl; have hfg6_3 := blk_frozen BK6.out 3); (have hg4_0 : w6.cell? ⟨g4, 0, none⟩ = some (.int .u64 0) := (blk_cell BK4c.out 0).trans rfl; have hfg4_0 := blk_frozen BK4c.out 0; have hg4_1 : w6.cell? ⟨g4, 1, none⟩ = some (.int .i64 0) := (blk_cell BK4c.out 1).trans rfl; have hfg4_1 := blk_frozen BK4c.out 1; have hg4_2 : w6.cell? ⟨g4, 2, none⟩ = some (.slice none 0 0) := (blk_cell BK4c.out 2).trans rfl; have hfg4_2 := blk_frozen BK4c.out 2); (have hg2_0 : w6.cell? ⟨g2, 0, none⟩ = some (.int .u64 n) := (blk_cell BK2e.out 0).trans rfl; have hfg2_0 := blk_frozen BK2e.out 0; have hg2_1 : w6.cell? ⟨g2, 1, none⟩ = some (.int .i64 v) := (blk_cell BK2e.out 1).trans rfl; have hfg2_1 := blk_frozen BK2e.out 1; have hg2_2 : w6.cell? ⟨g2, 2, none⟩ = some (.slice A l c) := (blk_cell BK2e.out 2).trans rfl; have hfg2_2 := blk_frozen BK2e.out 2); (have hg3_0 : w6.cell? ⟨g3, 0, none⟩ = some (.int .u64 n2) := (blk_cell BK3e.out 0).trans rfl; have hfg3_0 := blk_frozen BK3e.out 0; have hg3_1 : w6.cell? ⟨g3, 1, none⟩ = some (.int .i64 v2) := (blk_cell BK3e.out 1).trans rfl; have hfg3_1 := blk_frozen BK3e.out 1; have hg3_2 : w6.cell? ⟨g3, 2, none⟩ = some (.slice A2 l2 c2) := (blk_cell BK3e.out 2).trans rfl; have hfg3_2 := blk_frozen BK3e.out 2); have hn46 : g4 ≠ g6 := (by have := blk_lt BK4b.out; have := GE6.out; omega); have hn26 : g2 ≠ g6 := (by have := blk_lt BK2d.out; have := GE6.out; omega); have hn36 : g3 ≠ g6 := (by have := blk_lt BK3d.out; have := GE6.out; omega))
    | fail)
  have HBW := Aside0.mk (show Below w.heap.size w (((((w6.setCell ⟨g6, 0, none⟩ ka).setCell ⟨g6, 1, none⟩ kb).setCell ⟨g6, 2, none⟩ (kc)).setCell ⟨g6, 3, none⟩ kd)) from (below_set (below_set (below_set (below_set HB6.out HG6.out) HG6.out) HG6.out) HG6.out))
  have BK2W := Aside0.mk (show (((((w6.setCell ⟨g6, 0, none⟩ ka).setCell ⟨g6, 1, none⟩ kb).setCell ⟨g6, 2, none⟩ (kc)).setCell ⟨g6, 3, none⟩ kd)).heap[g2]? = some (.cells #[.int .u64 (n), .int .i64 (v), .slice (A) (l) (c)] 33 (0, 0)) from (blk_far (blk_far (blk_far (blk_far BK2e.out hn26 _) hn26 _) hn26 _) hn26 _))
  have BK3W := Aside0.mk (show (((((w6.setCell ⟨g6, 0, none⟩ ka).setCell ⟨g6, 1, none⟩ kb).setCell ⟨g6, 2, none⟩ (kc)).setCell ⟨g6, 3, none⟩ kd)).heap[g3]? = some (.cells #[.int .u64 n2, .int .i64 v2, .slice A2 (l2) c2] 33 (0, 0)) from (blk_far (blk_far (blk_far (blk_far BK3e.out hn36 _) hn36 _) hn36 _) hn36 _))
  have BK4W := Aside0.mk (show (((((w6.setCell ⟨g6, 0, none⟩ ka).setCell ⟨g6, 1, none⟩ kb).setCell ⟨g6, 2, none⟩ (kc)).setCell ⟨g6, 3, none⟩ kd)).heap[g4]? = some (.cells #[.int .u64 0, .int .i64 0, .slice none 0 0] 33 (0, 0)) from (blk_far (blk_far (blk_far (blk_far BK4c.out hn46 _) hn46 _) hn46 _) hn46 _))
  have HSz := Aside0.mk (show (((((w6.setCell ⟨g6, 0, none⟩ ka).setCell ⟨g6, 1, none⟩ kb).setCell ⟨g6, 2, none⟩ (kc)).setCell ⟨g6, 3, none⟩ kd)).heap.size = w6.heap.size by simp)
  clear hg6_0 hfg6_0 hg6_1 hfg6_1 hg6_2 hfg6_2 hg6_3 hfg6_3 hg4_0 hfg4_0 hg4_1 hfg4_1 hg4_2 hfg4_2 hg2_0 hfg2_0 hg2_1 hfg2_1 hg2_2 hfg2_2 hg3_0 hfg3_0 hg3_1 hfg3_1 hg3_2 hfg3_2
  generalize ((((w6.setCell ⟨g6, 0, none⟩ ka).setCell ⟨g6, 1, none⟩ kb).setCell ⟨g6, 2, none⟩ (kc)).setCell ⟨g6, 3, none⟩ kd) = wW at *
  (try rw [← HSz.out])
  have HLn := Aside0.mk (show xs.length = l from HX.out.1)
  obtain rfl := HLn.out
  refine (clone_strings xs xs.length A c _ (Kd.C_below HX.out HBW.out) (by have := HL.out; omega)).mono ?_
  rintro e w7 ⟨v7, rfl, ho7, hb7⟩
  obtain ⟨A7, c7, rfl, -, -⟩ := Kd.R_reads ho7
  have HO7 := Aside0.mk ho7
  have HB7 := Aside0.mk (below_then HBW.out HBW.out.size hb7)
  have HN2 := Aside0.mk (show some g2 ≠ (Value.slice A7 xs.length c7).ownBlock from fun e => by have h1 := blk_lt BK2W.out; have h2 := Kd.R_base ho7 _ e.symm; omega)
  have HN4 := Aside0.mk (show some g4 ≠ (Value.slice A7 xs.length c7).ownBlock from fun e => by have h1 := blk_lt BK4W.out; have h2 := Kd.R_base ho7 _ e.symm; omega)
  have HBs := Aside0.mk (show ∀ k, (Value.slice A7 xs.length c7).ownBlock = some k → w.heap.size ≤ k from fun k e => Nat.le_trans HBW.out.size (Kd.R_base ho7 _ e))
  have BK2y := Aside0.mk (blk_below BK2W.out hb7)
  have BK4y := Aside0.mk (blk_below BK4W.out hb7)
  clear ho7 hb7
  go_wp2_with fail
  refine (sort_strings xs w7 _ (fun _ => True) A7 _ c7 HO7.out (by have := HL.out; omega)).mono ?_
  rintro e w8 ⟨rfl, ho8, hg8⟩
  have HO8 := Aside0.mk ho8
  have HB8 := Aside0.mk (pw_below_grown HB7.out _ HB7.out.size hg8 (fun k hk => HBs.out k hk))
  have BK2z := Aside0.mk (blk_grown BK2y.out hg8 HN2.out)
  have BK4z := Aside0.mk (blk_grown BK4y.out hg8 HN4.out)
  have p0 : w8.cell? ⟨g2, 0, none⟩ = some (.int .u64 n) := (blk_cell BK2z.out 0).trans rfl
  have p1 : w8.cell? ⟨g2, 1, none⟩ = some (.int .i64 v) := (blk_cell BK2z.out 1).trans rfl
  clear ho8 hg8 HO7
  go_wp2_with fail
  refine start_ (n := 8) (S := fun w' => w'.cell? ⟨g2, 0, none⟩ = some (.int .u64 n) ∧ w'.cell? ⟨g2, 1, none⟩ = some (.int .i64 v)) (ds := [7]) #[false, false, false, false, false, false, false, false] (by kernel_rfl) rfl rfl ⟨p0, p1⟩ (fun hHeld => ?_)
  refine pure_ (i := 0) (N := some 67) (v := ?_) (a' := ?_) #[true, false, false, false, false, false, false, false] rfl rfl (by kernel_rfl) (fun _ _ _ h => h) (Or.inl ⟨by rfl, ?_⟩) ?_ ?_
  rotate_left
  · intro w'
    go_simp
    with_reducible rfl
  rotate_left
  · simp only [Act.put, List.setIfInBounds_toArray, List.set_cons_zero, List.set_cons_succ, i64_w, i32_w]
    rfl
  refine pure_ (i := 2) (N := some 69) (v := ?_) (a' := ?_) #[true, false, true, false, false, false, false, false] rfl rfl (by kernel_rfl) (fun _ _ _ h => h) (Or.inl ⟨by rfl, ?_⟩) ?_ ?_
  rotate_left
  · intro w'
    go_simp
    with_reducible rfl
  rotate_left
  · simp only [Act.put, List.setIfInBounds_toArray, List.set_cons_zero, List.set_cons_succ, i64_w, i32_w]
    rfl
  refine pure_ (i := 4) (N := some 71) (v := ?_) (a' := ?_) #[true, false, true, false, true, false, false, false] rfl rfl (by kernel_rfl) (fun _ _ _ h => h) (Or.inl ⟨by rfl, ?_⟩) ?_ ?_
  rotate_left
  · intro w'
    go_simp
    with_reducible rfl
  rotate_left
  · simp only [Act.put, List.setIfInBounds_toArray, List.set_cons_zero, List.set_cons_succ, i64_w, i32_w]
    rfl
  refine take_ (i := 1) (N := some 68) (v := ?_) (a' := ?_) #[true, true, true, false, true, false, false, false] rfl rfl (by kernel_rfl) (fun _ _ _ h => h) (Or.inl ⟨by rfl, ?_⟩) hHeld ?_ ?_
  rotate_left
  · rintro w' ⟨s0, s1⟩
    go_simp
    with_reducible rfl
  rotate_left
  · simp only [Act.put, List.setIfInBounds_toArray, List.set_cons_zero, List.set_cons_succ, i64_w, i32_w]
    rfl
  refine take_ (i := 3) (N := some 70) (v := ?_) (a' := ?_) #[true, true, true, true, true, false, false, false] rfl rfl (by kernel_rfl) (fun _ _ _ h => h) (Or.inl ⟨by rfl, ?_⟩) hHeld ?_ ?_
  rotate_left
  · rintro w' ⟨s0, s1⟩
    go_simp
    with_reducible rfl
  rotate_left
  · simp only [Act.put, List.setIfInBounds_toArray, List.set_cons_zero, List.set_cons_succ, i64_w, i32_w]
    rfl
  refine one_ (i := 5) (N := some 72) #[true, true, true, true, true, true, false, false] rfl rfl (by kernel_rfl) (by decide) (fun K hK => ?_)
  refine goes_ Try.func31 (by kernel_rfl) rfl #[.slice A7 xs.length c7] (by rfl) rfl rfl (by simp only [List.map_toArray, List.map_cons, List.map_nil]; rfl) ?_
  with_reducible refine (compact_strings (sortB xs) _ _ (fun _ => True) A7 _ c7 (Kd.R_drew HO8.out) (by rw [sortB_length]; have := HL.out; omega)).mono ?_
  rintro e w9 ⟨v9, rfl, ho9, hv9, hg9⟩
  refine ⟨_, rfl, ?_⟩
  have BK2q := Aside0.mk (blk_grown (blk_drew BK2z.out) hg9 HN2.out)
  have BK4q := Aside0.mk (blk_grown (blk_drew BK4z.out) hg9 HN4.out)
  have HB9 := Aside0.mk (pw_below_grown (below_drew HB8.out) _ (below_drew HB8.out).size hg9 (fun k hk => HBs.out k hk))
  have hbd : ∀ u : World, (Instr.build 33 #[(0, .int .u64 n), (1, .int .i64 v), (2, .slice A7 (compactB (sortB xs)).length c7)]).run Try.prog u = .ok (.agg #[.int .u64 n, .int .i64 v, .slice A7 (compactB (sortB xs)).length c7]) u := fun u => run_build u _ _ _ (by kernel_rfl)
  subst hv9
  rw [built_is] at ho9 hbd ⊢
  have HO9 := Aside0.mk ho9
  have q0 : w9.cell? ⟨g2, 0, none⟩ = some (.int .u64 n) := (blk_cell BK2q.out 0).trans rfl
  have q1 : w9.cell? ⟨g2, 1, none⟩ = some (.int .i64 v) := (blk_cell BK2q.out 1).trans rfl
  (have hg4_0 : w9.cell? ⟨g4, 0, none⟩ = some (.int .u64 0) := (blk_cell BK4q.out 0).trans rfl; have hfg4_0 := blk_frozen BK4q.out 0; have hg4_1 : w9.cell? ⟨g4, 1, none⟩ = some (.int .i64 0) := (blk_cell BK4q.out 1).trans rfl; have hfg4_1 := blk_frozen BK4q.out 1; have hg4_2 : w9.cell? ⟨g4, 2, none⟩ = some (.slice none 0 0) := (blk_cell BK4q.out 2).trans rfl; have hfg4_2 := blk_frozen BK4q.out 2)
  clear ho9 hg9
  refine hK.out _ _ ⟨q0, q1⟩ (fun hHeld => ?_)
  clear hK K
  refine norm_ (a' := ?_) ?_ ?_
  rotate_left
  · show Act.put _ (some 72) _ = _
    simp only [Act.put, List.setIfInBounds_toArray, List.set_cons_zero, List.set_cons_succ, i64_w, i32_w]
    rfl
  refine pure_ (i := 6) (N := some 73) (v := ?_) (a' := ?_) #[true, true, true, true, true, true, true, false] rfl rfl (by kernel_rfl) (fun _ _ _ h => h) (Or.inl ⟨by rfl, ?_⟩) ?_ ?_
  rotate_left
  · intro w'
    go_simp
    with_reducible rfl
  rotate_left
  · simp only [Act.put, List.setIfInBounds_toArray, List.set_cons_zero, List.set_cons_succ, i64_w, i32_w]
    rfl
  refine last_ (i := 7) (N := none) #[true, true, true, true, true, true, true, true] rfl rfl (by kernel_rfl) (by decide) (fun K hK => ?_)
  refine skip_ (w1 := ?_) (by rfl) rfl ?_ ?_
  rotate_left
  · go_simp
    rfl
  refine hK.out _ _ ?_
  clear hK K
  refine done_ (by kernel_rfl) ?_
  go_wp2_with fail
  have HT := Aside0.mk (show ∀ q, q ∈ 9 :: Kd.string.E → q ≠ 33 by decide)
  have b1 := blk_set BK4q.out 0 (.int .u64 (n))
  have b2 := blk_set b1 1 (.int .i64 (v))
  have b3 := blk_set b2 2 (.slice A7 (builtB xs).length c7)
  have r1 := Kd.R_set (Kd.R_set (Kd.R_set HO9.out BK4q.out HT.out 0 (.int .u64 (n))) b1 HT.out 1 (.int .i64 (v))) b2 HT.out 2 (.slice A7 (builtB xs).length c7)
  exact bodyPost_ret (results_cell_row rfl _ _ g4 33 #[.int .u64 (n), .int .i64 (v), .slice A7 (builtB xs).length c7] (0, 0) _ rfl b3 Try.underlying33 rfl (by kernel_rfl)) rfl ⟨_, rfl, Kd.R_lower r1 HBW.out.size, below_set (below_set (below_set HB9.out HG4.out) HG4.out) HG4.out⟩
set_option maxRecDepth 100000 in
set_option maxHeartbeats 400000 in
theorem merge_right (k j v v2 n n2 : Int) (A A2 : Option Addr) (l c l2 c2 : Nat) (w : World) (ka kb kc kd : Value) (e1 : (n == 0) = true) (e2 : (n2 == 0) = false) (xs : List ByteArray) (hx : Kd.C Kd.string w A2 l2 xs) (hl : xs.length ≤ 8796093022208) (HC : Knows k j #[ka, kb, kc, kd] true)
    (h1 : ka.oneCell' = true) (h2 : kb.oneCell' = true) (h3 : kc.oneCell' = true) (h4 : kd.oneCell' = true) :
    Calls Try.prog 17 #[.agg #[.int .i64 k, .int .i64 j], .agg #[.int .u64 n, .int .i64 v, .slice A l c], .agg #[.int .u64 n2, .int .i64 v2, .slice A2 l2 c2]] w (Merged w n2 v2 (builtB xs)) := by
  have sa := store_fact h1
  have sb := store_fact h2
  have sc := store_fact h3
  have sd := store_fact h4
  clear h1 h2 h3 h4
  have HX := Aside0.mk hx
  have HL := Aside0.mk hl
  clear hx hl
  go_enter Try.func17, Try.ntmps17
  go_wp2_with (first
    | ((with_reducible refine gate_dst (N := 3) rfl ?_); refine box_event ?hg (N := 3) ?hd (cs := #[.int .i64 k, .int .i64 j]) (t := 23) ?hr ?_; (case hd => rfl); (case hg => rfl); (case hr => first | (go_simp; done) | (go_simp; rfl)); intro g1 hg w1 hbox hb; have GE1 := Aside0.mk (Nat.le_of_eq hg.symm); have BK1 := Aside0.mk hbox; have HX1 := Aside0.mk hb; clear hg hbox hb)
    | ((with_reducible refine gate_dst (N := 4) rfl ?_); refine box_event ?hg (N := 4) ?hd (cs := #[.int .u64 n, .int .i64 v, .slice A l c]) (t := 33) ?hr ?_; (case hd => rfl); (case hg => rfl); (case hr => first | (go_simp; done) | (go_simp; rfl)); intro g2 hg w2 hbox hb; have GE2 := Aside0.mk (Nat.le_of_eq hg.symm); have BK2 := Aside0.mk hbox; have HX2 := Aside0.mk hb; clear hg hbox hb)
    | (((with_reducible refine gate_dst (N := 5) rfl ?_); refine box_event ?hg (N := 5) ?hd (cs := #[.int .u64 n2, .int .i64 v2, .slice A2 l2 c2]) (t := 33) ?hr ?_; (case hd => rfl); (case hg => rfl); (case hr => first | (go_simp; done) | (go_simp; rfl)); intro g3 hg w3 hbox hb; have GE3 := Aside0.mk (Nat.le_of_eq hg.symm); have BK3 := Aside0.mk hbox; have HX3 := Aside0.mk hb; clear hg hbox hb); have BK1b := Aside0.mk (blk_below (blk_below BK1.out HX2.out) HX3.out); have BK2b := Aside0.mk (blk_below BK2.out HX3.out); have HB3 := Aside0.mk (below_then (below_then HX1.out HX1.out.size HX2.out) (Nat.le_trans HX1.out.size HX2.out.size) HX3.out); have HG2 := Aside0.mk (Nat.le_trans HX1.out.size GE2.out))
    | (((with_reducible refine gate_dst (N := 6) rfl ?_); refine box_event ?hg (N := 6) ?hd (cs := #[.int .u64 0, .int .i64 0, .slice none 0 0]) (t := 33) ?hr ?_; (case hd => rfl); (case hg => rfl); (case hr => first | (go_simp; done) | (go_simp; rfl)); intro g4 hg w4 hbox hb; have GE4 := Aside0.mk (Nat.le_of_eq hg.symm); have BK4 := Aside0.mk hbox; have HX4 := Aside0.mk hb; clear hg hbox hb); have BK1c := Aside0.mk (blk_below BK1b.out HX4.out); have BK2c := Aside0.mk (blk_below BK2b.out HX4.out); have BK3c := Aside0.mk (blk_below BK3.out HX4.out); have HB4 := Aside0.mk (below_then HB3.out HB3.out.size HX4.out); have HG4 := Aside0.mk (Nat.le_trans HB3.out.size GE4.out); (have hg1_0 : w4.cell? ⟨g1, 0, none⟩ = some (.int .i64 k) := (blk_cell BK1c.out 0).trans rfl; have hfg1_0 := blk_frozen BK1c.out 0; have hg1_1 : w4.cell? ⟨g1, 1, none⟩ = some (.int .i64 j) := (blk_cell BK1c.out 1).trans rfl; have hfg1_1 := blk_frozen BK1c.out 1); have hn24 : g2 ≠ g4 := (by have := blk_lt BK2b.out; have := GE4.out; omega); have hn34 : g3 ≠ g4 := (by have := blk_lt BK3.out; have := GE4.out; omega); have hn23 : g2 ≠ g3 := (by have := blk_lt BK2.out; have := GE3.out; omega))
    | (go_at_call 27; refine (HC _).mono ?_; rintro e w5 ⟨rfl, hb5⟩; have BK4b := Aside0.mk (blk_below BK4.out hb5); have BK2d := Aside0.mk (blk_below BK2c.out hb5); have BK3d := Aside0.mk (blk_below BK3c.out hb5); have HB5 := Aside0.mk (below_then HB4.out HB4.out.size hb5); clear hb5; clear hg1_0 hfg1_0 hg1_1 hfg1_1)
    | (((with_reducible refine gate_dst (N := 7) rfl ?_); refine box_event ?hg (N := 7) ?hd (cs := #[.bool false, .nilFunc, .nilFunc, .nilFunc]) (t := 61) ?hr ?_; (case hd => rfl); (case hg => rfl); (case hr => first | (go_simp; done) | (go_simp; rfl)); intro g6 hg w6 hbox hb; have GE6 := Aside0.mk (Nat.le_of_eq hg.symm); have BK6 := Aside0.mk hbox; have HX6 := Aside0.mk hb; clear hg hbox hb); have BK4c := Aside0.mk (blk_below BK4b.out HX6.out); have BK2e := Aside0.mk (blk_below BK2d.out HX6.out); have BK3e := Aside0.mk (blk_below BK3d.out HX6.out); have HB6 := Aside0.mk (below_then HB5.out HB5.out.size HX6.out); have HG6 := Aside0.mk (Nat.le_trans HB5.out.size GE6.out); (have hg6_0 : w6.cell? ⟨g6, 0, none⟩ = some (.bool false) := (blk_cell BK6.out 0).trans rfl; have hfg6_0 := blk_frozen BK6.out 0; have hg6_1 : w6.cell? ⟨g6, 1, none⟩ = some (.nilFunc) := (blk_cell BK6.out 1).trans rfl; have hfg6_1 := blk_frozen BK6.out 1; have hg6_2 : w6.cell? ⟨g6, 2, none⟩ = some (.nilFunc) := (blk_cell BK6.out 2).trans rfl; have hfg6_2 := blk_frozen BK6.out 2; have hg6_3 : w6.cell? ⟨g6, 3, none⟩ = some (.nilFunc) := (blk_cell BK6.out 3).trans rfl; have hfg6_3 := blk_frozen BK6.out 3); (have hg4_0 : w6.cell? ⟨g4, 0, none⟩ = some (.int .u64 0) := (blk_cell BK4c.out 0).trans rfl; have hfg4_0 := blk_frozen BK4c.out 0; have hg4_1 : w6.cell? ⟨g4, 1, none⟩ = some (.int .i64 0) := (blk_cell BK4c.out 1).trans rfl; have hfg4_1 := blk_frozen BK4c.out 1; have hg4_2 : w6.cell? ⟨g4, 2, none⟩ = some (.slice none 0 0) := (blk_cell BK4c.out 2).trans rfl; have hfg4_2 := blk_frozen BK4c.out 2); (have hg2_0 : w6.cell? ⟨g2, 0, none⟩ = some (.int .u64 n) := (blk_cell BK2e.out 0).trans rfl; have hfg2_0 := blk_frozen BK2e.out 0; have hg2_1 : w6.cell? ⟨g2, 1, none⟩ = some (.int .i64 v) := (blk_cell BK2e.out 1).trans rfl; have hfg2_1 := blk_frozen BK2e.out 1; have hg2_2 : w6.cell? ⟨g2, 2, none⟩ = some (.slice A l c) := (blk_cell BK2e.out 2).trans rfl; have hfg2_2 := blk_frozen BK2e.out 2); (have hg3_0 : w6.cell? ⟨g3, 0, none⟩ = some (.int .u64 n2) := (blk_cell BK3e.out 0).trans rfl; have hfg3_0 := blk_frozen BK3e.out 0; have hg3_1 : w6.cell? ⟨g3, 1, none⟩ = some (.int .i64 v2) := (blk_cell BK3e.out 1).trans rfl; have hfg3_1 := blk_frozen BK3e.out 1; have hg3_2 : w6.cell? ⟨g3, 2, none⟩ = some (.slice A2 l2 c2) := (blk_cell BK3e.out 2).trans rfl; have hfg3_2 := blk_frozen BK3e.out 2); have hn46 : g4 ≠ g6 := (by have := blk_lt BK4b.out; have := GE6.out; omega); have hn26 : g2 ≠ g6 := (by have := blk_lt BK2d.out; have := GE6.out; omega); have hn36 : g3 ≠ g6 := (by have := blk_lt BK3d.out; have := GE6.out; omega))
    | fail)
  have HBW := Aside0.mk (show Below w.heap.size w ((((((((w6.setCell ⟨g6, 0, none⟩ ka).setCell ⟨g6, 1, none⟩ kb).setCell ⟨g6, 2, none⟩ (kc)).setCell ⟨g6, 3, none⟩ kd).setCell ⟨g2, 0, none⟩ (.int .u64 n2)).setCell ⟨g2, 1, none⟩ (.int .i64 v2)).setCell ⟨g2, 2, none⟩ (.slice A2 l2 c2))) from (below_set (below_set (below_set (below_set (below_set (below_set (below_set HB6.out HG6.out) HG6.out) HG6.out) HG6.out) HG2.out) HG2.out) HG2.out))
  have BK2W := Aside0.mk (show ((((((((w6.setCell ⟨g6, 0, none⟩ ka).setCell ⟨g6, 1, none⟩ kb).setCell ⟨g6, 2, none⟩ (kc)).setCell ⟨g6, 3, none⟩ kd).setCell ⟨g2, 0, none⟩ (.int .u64 n2)).setCell ⟨g2, 1, none⟩ (.int .i64 v2)).setCell ⟨g2, 2, none⟩ (.slice A2 l2 c2))).heap[g2]? = some (.cells #[.int .u64 (n2), .int .i64 (v2), .slice (A2) (l2) (c2)] 33 (0, 0)) from (blk_set (blk_set (blk_set (blk_far (blk_far (blk_far (blk_far BK2e.out hn26 _) hn26 _) hn26 _) hn26 _) 0 _) 1 _) 2 _))
  have BK3W := Aside0.mk (show ((((((((w6.setCell ⟨g6, 0, none⟩ ka).setCell ⟨g6, 1, none⟩ kb).setCell ⟨g6, 2, none⟩ (kc)).setCell ⟨g6, 3, none⟩ kd).setCell ⟨g2, 0, none⟩ (.int .u64 n2)).setCell ⟨g2, 1, none⟩ (.int .i64 v2)).setCell ⟨g2, 2, none⟩ (.slice A2 l2 c2))).heap[g3]? = some (.cells #[.int .u64 n2, .int .i64 v2, .slice A2 (l2) c2] 33 (0, 0)) from (blk_far (blk_far (blk_far (blk_far (blk_far (blk_far (blk_far BK3e.out hn36 _) hn36 _) hn36 _) hn36 _) hn23.symm _) hn23.symm _) hn23.symm _))
  have BK4W := Aside0.mk (show ((((((((w6.setCell ⟨g6, 0, none⟩ ka).setCell ⟨g6, 1, none⟩ kb).setCell ⟨g6, 2, none⟩ (kc)).setCell ⟨g6, 3, none⟩ kd).setCell ⟨g2, 0, none⟩ (.int .u64 n2)).setCell ⟨g2, 1, none⟩ (.int .i64 v2)).setCell ⟨g2, 2, none⟩ (.slice A2 l2 c2))).heap[g4]? = some (.cells #[.int .u64 0, .int .i64 0, .slice none 0 0] 33 (0, 0)) from (blk_far (blk_far (blk_far (blk_far (blk_far (blk_far (blk_far BK4c.out hn46 _) hn46 _) hn46 _) hn46 _) hn24.symm _) hn24.symm _) hn24.symm _))
  have HSz := Aside0.mk (show ((((((((w6.setCell ⟨g6, 0, none⟩ ka).setCell ⟨g6, 1, none⟩ kb).setCell ⟨g6, 2, none⟩ (kc)).setCell ⟨g6, 3, none⟩ kd).setCell ⟨g2, 0, none⟩ (.int .u64 n2)).setCell ⟨g2, 1, none⟩ (.int .i64 v2)).setCell ⟨g2, 2, none⟩ (.slice A2 l2 c2))).heap.size = w6.heap.size by simp)
  clear hg6_0 hfg6_0 hg6_1 hfg6_1 hg6_2 hfg6_2 hg6_3 hfg6_3 hg4_0 hfg4_0 hg4_1 hfg4_1 hg4_2 hfg4_2 hg2_0 hfg2_0 hg2_1 hfg2_1 hg2_2 hfg2_2 hg3_0 hfg3_0 hg3_1 hfg3_1 hg3_2 hfg3_2
  generalize (((((((w6.setCell ⟨g6, 0, none⟩ ka).setCell ⟨g6, 1, none⟩ kb).setCell ⟨g6, 2, none⟩ (kc)).setCell ⟨g6, 3, none⟩ kd).setCell ⟨g2, 0, none⟩ (.int .u64 n2)).setCell ⟨g2, 1, none⟩ (.int .i64 v2)).setCell ⟨g2, 2, none⟩ (.slice A2 l2 c2)) = wW at *
  (try rw [← HSz.out])
  have HLn := Aside0.mk (show xs.length = l2 from HX.out.1)
  obtain rfl := HLn.out
  refine (clone_strings xs xs.length A2 c2 _ (Kd.C_below HX.out HBW.out) (by have := HL.out; omega)).mono ?_
  rintro e w7 ⟨v7, rfl, ho7, hb7⟩
  obtain ⟨A7, c7, rfl, -, -⟩ := Kd.R_reads ho7
  have HO7 := Aside0.mk ho7
  have HB7 := Aside0.mk (below_then HBW.out HBW.out.size hb7)
  have HN2 := Aside0.mk (show some g2 ≠ (Value.slice A7 xs.length c7).ownBlock from fun e => by have h1 := blk_lt BK2W.out; have h2 := Kd.R_base ho7 _ e.symm; omega)
  have HN4 := Aside0.mk (show some g4 ≠ (Value.slice A7 xs.length c7).ownBlock from fun e => by have h1 := blk_lt BK4W.out; have h2 := Kd.R_base ho7 _ e.symm; omega)
  have HBs := Aside0.mk (show ∀ k, (Value.slice A7 xs.length c7).ownBlock = some k → w.heap.size ≤ k from fun k e => Nat.le_trans HBW.out.size (Kd.R_base ho7 _ e))
  have BK2y := Aside0.mk (blk_below BK2W.out hb7)
  have BK4y := Aside0.mk (blk_below BK4W.out hb7)
  clear ho7 hb7
  go_wp2_with fail
  refine (sort_strings xs w7 _ (fun _ => True) A7 _ c7 HO7.out (by have := HL.out; omega)).mono ?_
  rintro e w8 ⟨rfl, ho8, hg8⟩
  have HO8 := Aside0.mk ho8
  have HB8 := Aside0.mk (pw_below_grown HB7.out _ HB7.out.size hg8 (fun k hk => HBs.out k hk))
  have BK2z := Aside0.mk (blk_grown BK2y.out hg8 HN2.out)
  have BK4z := Aside0.mk (blk_grown BK4y.out hg8 HN4.out)
  have p0 : w8.cell? ⟨g2, 0, none⟩ = some (.int .u64 n2) := (blk_cell BK2z.out 0).trans rfl
  have p1 : w8.cell? ⟨g2, 1, none⟩ = some (.int .i64 v2) := (blk_cell BK2z.out 1).trans rfl
  clear ho8 hg8 HO7
  go_wp2_with fail
  refine start_ (n := 8) (S := fun w' => w'.cell? ⟨g2, 0, none⟩ = some (.int .u64 n2) ∧ w'.cell? ⟨g2, 1, none⟩ = some (.int .i64 v2)) (ds := [7]) #[false, false, false, false, false, false, false, false] (by kernel_rfl) rfl rfl ⟨p0, p1⟩ (fun hHeld => ?_)
  refine pure_ (i := 0) (N := some 67) (v := ?_) (a' := ?_) #[true, false, false, false, false, false, false, false] rfl rfl (by kernel_rfl) (fun _ _ _ h => h) (Or.inl ⟨by rfl, ?_⟩) ?_ ?_
  rotate_left
  · intro w'
    go_simp
    with_reducible rfl
  rotate_left
  · simp only [Act.put, List.setIfInBounds_toArray, List.set_cons_zero, List.set_cons_succ, i64_w, i32_w]
    rfl
  refine pure_ (i := 2) (N := some 69) (v := ?_) (a' := ?_) #[true, false, true, false, false, false, false, false] rfl rfl (by kernel_rfl) (fun _ _ _ h => h) (Or.inl ⟨by rfl, ?_⟩) ?_ ?_
  rotate_left
  · intro w'
    go_simp
    with_reducible rfl
  rotate_left
  · simp only [Act.put, List.setIfInBounds_toArray, List.set_cons_zero, List.set_cons_succ, i64_w, i32_w]
    rfl
  refine pure_ (i := 4) (N := some 71) (v := ?_) (a' := ?_) #[true, false, true, false, true, false, false, false] rfl rfl (by kernel_rfl) (fun _ _ _ h => h) (Or.inl ⟨by rfl, ?_⟩) ?_ ?_
  rotate_left
  · intro w'
    go_simp
    with_reducible rfl
  rotate_left
  · simp only [Act.put, List.setIfInBounds_toArray, List.set_cons_zero, List.set_cons_succ, i64_w, i32_w]
    rfl
  refine take_ (i := 1) (N := some 68) (v := ?_) (a' := ?_) #[true, true, true, false, true, false, false, false] rfl rfl (by kernel_rfl) (fun _ _ _ h => h) (Or.inl ⟨by rfl, ?_⟩) hHeld ?_ ?_
  rotate_left
  · rintro w' ⟨s0, s1⟩
    go_simp
    with_reducible rfl
  rotate_left
  · simp only [Act.put, List.setIfInBounds_toArray, List.set_cons_zero, List.set_cons_succ, i64_w, i32_w]
    rfl
  refine take_ (i := 3) (N := some 70) (v := ?_) (a' := ?_) #[true, true, true, true, true, false, false, false] rfl rfl (by kernel_rfl) (fun _ _ _ h => h) (Or.inl ⟨by rfl, ?_⟩) hHeld ?_ ?_
  rotate_left
  · rintro w' ⟨s0, s1⟩
    go_simp
    with_reducible rfl
  rotate_left
  · simp only [Act.put, List.setIfInBounds_toArray, List.set_cons_zero, List.set_cons_succ, i64_w, i32_w]
    rfl
  refine one_ (i := 5) (N := some 72) #[true, true, true, true, true, true, false, false] rfl rfl (by kernel_rfl) (by decide) (fun K hK => ?_)
  refine goes_ Try.func31 (by kernel_rfl) rfl #[.slice A7 xs.length c7] (by rfl) rfl rfl (by simp only [List.map_toArray, List.map_cons, List.map_nil]; rfl) ?_
  with_reducible refine (compact_strings (sortB xs) _ _ (fun _ => True) A7 _ c7 (Kd.R_drew HO8.out) (by rw [sortB_length]; have := HL.out; omega)).mono ?_
  rintro e w9 ⟨v9, rfl, ho9, hv9, hg9⟩
  refine ⟨_, rfl, ?_⟩
  have BK2q := Aside0.mk (blk_grown (blk_drew BK2z.out) hg9 HN2.out)
  have BK4q := Aside0.mk (blk_grown (blk_drew BK4z.out) hg9 HN4.out)
  have HB9 := Aside0.mk (pw_below_grown (below_drew HB8.out) _ (below_drew HB8.out).size hg9 (fun k hk => HBs.out k hk))
  have hbd : ∀ u : World, (Instr.build 33 #[(0, .int .u64 n2), (1, .int .i64 v2), (2, .slice A7 (compactB (sortB xs)).length c7)]).run Try.prog u = .ok (.agg #[.int .u64 n2, .int .i64 v2, .slice A7 (compactB (sortB xs)).length c7]) u := fun u => run_build u _ _ _ (by kernel_rfl)
  subst hv9
  rw [built_is] at ho9 hbd ⊢
  have HO9 := Aside0.mk ho9
  have q0 : w9.cell? ⟨g2, 0, none⟩ = some (.int .u64 n2) := (blk_cell BK2q.out 0).trans rfl
  have q1 : w9.cell? ⟨g2, 1, none⟩ = some (.int .i64 v2) := (blk_cell BK2q.out 1).trans rfl
  (have hg4_0 : w9.cell? ⟨g4, 0, none⟩ = some (.int .u64 0) := (blk_cell BK4q.out 0).trans rfl; have hfg4_0 := blk_frozen BK4q.out 0; have hg4_1 : w9.cell? ⟨g4, 1, none⟩ = some (.int .i64 0) := (blk_cell BK4q.out 1).trans rfl; have hfg4_1 := blk_frozen BK4q.out 1; have hg4_2 : w9.cell? ⟨g4, 2, none⟩ = some (.slice none 0 0) := (blk_cell BK4q.out 2).trans rfl; have hfg4_2 := blk_frozen BK4q.out 2)
  clear ho9 hg9
  refine hK.out _ _ ⟨q0, q1⟩ (fun hHeld => ?_)
  clear hK K
  refine norm_ (a' := ?_) ?_ ?_
  rotate_left
  · show Act.put _ (some 72) _ = _
    simp only [Act.put, List.setIfInBounds_toArray, List.set_cons_zero, List.set_cons_succ, i64_w, i32_w]
    rfl
  refine pure_ (i := 6) (N := some 73) (v := ?_) (a' := ?_) #[true, true, true, true, true, true, true, false] rfl rfl (by kernel_rfl) (fun _ _ _ h => h) (Or.inl ⟨by rfl, ?_⟩) ?_ ?_
  rotate_left
  · intro w'
    go_simp
    with_reducible rfl
  rotate_left
  · simp only [Act.put, List.setIfInBounds_toArray, List.set_cons_zero, List.set_cons_succ, i64_w, i32_w]
    rfl
  refine last_ (i := 7) (N := none) #[true, true, true, true, true, true, true, true] rfl rfl (by kernel_rfl) (by decide) (fun K hK => ?_)
  refine skip_ (w1 := ?_) (by rfl) rfl ?_ ?_
  rotate_left
  · go_simp
    rfl
  refine hK.out _ _ ?_
  clear hK K
  refine done_ (by kernel_rfl) ?_
  go_wp2_with fail
  have HT := Aside0.mk (show ∀ q, q ∈ 9 :: Kd.string.E → q ≠ 33 by decide)
  have b1 := blk_set BK4q.out 0 (.int .u64 (n2))
  have b2 := blk_set b1 1 (.int .i64 (v2))
  have b3 := blk_set b2 2 (.slice A7 (builtB xs).length c7)
  have r1 := Kd.R_set (Kd.R_set (Kd.R_set HO9.out BK4q.out HT.out 0 (.int .u64 (n2))) b1 HT.out 1 (.int .i64 (v2))) b2 HT.out 2 (.slice A7 (builtB xs).length c7)
  exact bodyPost_ret (results_cell_row rfl _ _ g4 33 #[.int .u64 (n2), .int .i64 (v2), .slice A7 (builtB xs).length c7] (0, 0) _ rfl b3 Try.underlying33 rfl (by kernel_rfl)) rfl ⟨_, rfl, Kd.R_lower r1 HBW.out.size, below_set (below_set (below_set HB9.out HG4.out) HG4.out) HG4.out⟩
theorem C_two {w : World} {g e E : Nat} {A A2 : Option Addr} {c c2 : Nat} {xs ys : List ByteArray} (hb : w.heap[g]? = some (.cells #[.slice A xs.length c, .slice A2 ys.length c2] E (0, 0))) (h1 : Kd.C Kd.string w A xs.length xs) (h2 : Kd.C Kd.string w A2 ys.length ys) (hc : xs.length ≤ c) (hc2 : ys.length ≤ c2) :
    Kd.C (Kd.slice e Kd.string) w (some ⟨g, 0, none⟩) 2 [xs, ys] := by
  have e0 := (blk_cell hb 0).trans (rfl : (#[Value.slice A xs.length c, .slice A2 ys.length c2] : Array Value)[0]? = some (.slice A xs.length c))
  have e1 := (blk_cell hb 1).trans (rfl : (#[Value.slice A xs.length c, .slice A2 ys.length c2] : Array Value)[1]? = some (.slice A2 ys.length c2))
  refine ⟨rfl, by omega, fun _ => ⟨_, rfl, fun q p hp => ?_⟩⟩
  match q, hp with
  | 0, hp =>
    obtain rfl : xs = p := by simpa using hp
    refine ⟨[.slice A xs.length c], rfl, ⟨A, c, rfl, hc, h1⟩, fun i u hu => ?_⟩
    match i, hu with
    | 0, hu =>
      obtain rfl : Value.slice A xs.length c = u := by simpa using hu
      exact e0
    | i + 1, hu => simp at hu
  | 1, hp =>
    obtain rfl : ys = p := by simpa using hp
    refine ⟨[.slice A2 ys.length c2], rfl, ⟨A2, c2, rfl, hc2, h2⟩, fun i u hu => ?_⟩
    match i, hu with
    | 0, hu =>
      obtain rfl : Value.slice A2 ys.length c2 = u := by simpa using hu
      exact e1
    | i + 1, hu => simp at hu
  | q + 2, hp => simp at hp
theorem nil_neq (u : World) : (binOp .neq 58 .nilFunc .nilFunc).run Try.prog u = .ok (.bool false) u := by kernel_rfl
theorem fn_neq (m : Nat) (u : World) : (binOp .neq 58 (.func (.func m) #[] #[]) .nilFunc).run Try.prog u = .ok (.bool true) u := by kernel_rfl
theorem below_alloc' {w W : World} (h : Below w.heap.size w W) (o : Obj) : Below w.heap.size w (W.alloc o) := below_alloc h o
theorem concat_two (xs ys : List ByteArray) (h : xs.length + ys.length < 8796093022208) : ∃ k, slices_Concat_string_string.f k [xs, ys] = some (xs ++ ys) := by
  refine ⟨6, ?_⟩
  have hx : wrap64 ((0 : Int) + (xs.length : Int)) = xs.length := by unfold wrap64; omega
  have hy : wrap64 ((xs.length : Int) + (ys.length : Int)) = ((xs.length + ys.length : Nat) : Int) := by unfold wrap64; omega
  have h1 : wrap64 ((0 : Int) + 1) = 1 := by unfold wrap64; omega
  have h2 : wrap64 ((1 : Int) + 1) = 2 := by unfold wrap64; omega
  have g0 : rd_L2 [xs, ys] 0 = xs := rfl
  have g1 : rd_L2 [xs, ys] 1 = ys := rfl
  have hl : (([xs, ys] : List (List ByteArray)).length : Int) = 2 := rfl
  have hs : ((xs.length + ys.length : Nat) : Int) ≤ 8796093022208 := by omega
  have hg : slices_Grow_string_string_at_nil.f ((xs.length + ys.length : Nat) : Int) = some [] := by unfold slices_Grow_string_string_at_nil.f; rw [if_pos (by omega), if_pos hs]
  unfold slices_Concat_string_string.f
  simp only [slices_Concat_string_string.l0, hl, g0, h1, g1, h2, hx]
  rw [if_pos (by decide), if_pos (by decide), if_pos (by decide), if_neg (by omega), if_pos (by decide), if_pos (by decide), if_pos (by decide), hy, if_neg (by omega), if_neg (by decide), hg]
  simp only [Option.bind_some, slices_Concat_string_string.l1, hl, g0, h1, g1, h2, List.nil_append, List.length_nil]
  rw [if_pos (by decide), if_pos (by decide), if_pos (by decide), if_pos (by omega), if_pos (by decide), if_pos (by decide), if_pos (by decide), if_pos (by omega), if_neg (by decide)]
set_option maxRecDepth 100000 in
set_option maxHeartbeats 400000 in
theorem merge_nil (k j v v2 n n2 : Int) (A A2 : Option Addr) (l c l2 c2 : Nat) (w : World) (ka kb kc kd : Value) (e1 : (n == 0) = false) (e2 : (n2 == 0) = false) (xs ys : List ByteArray) (hx : Kd.C Kd.string w A l xs) (hy : Kd.C Kd.string w A2 l2 ys) (hl : xs.length + ys.length < 8796093022208) (hlc : l ≤ c) (hlc2 : l2 ≤ c2) (hkc : kc = .nilFunc) (HC : Knows k j #[ka, kb, kc, kd] true)
    (h1 : ka.oneCell' = true) (h2 : kb.oneCell' = true) (h3 : kc.oneCell' = true) (h4 : kd.oneCell' = true) :
    Calls Try.prog 17 #[.agg #[.int .i64 k, .int .i64 j], .agg #[.int .u64 n, .int .i64 v, .slice A l c], .agg #[.int .u64 n2, .int .i64 v2, .slice A2 l2 c2]] w (Merged w (IntKind.u64.wrap (n + n2)) v (builtB (xs ++ ys))) := by
  have sa := store_fact h1
  have sb := store_fact h2
  have sc := store_fact h3
  have sd := store_fact h4
  clear h1 h2 h3 h4
  subst hkc
  have hcmp := nil_neq
  have e3 : (n2 != 0) = true := by rw [bne, e2]; rfl
  have HX := Aside0.mk hx
  have HY := Aside0.mk hy
  have HL := Aside0.mk hl
  have HLc := Aside0.mk (And.intro hlc hlc2)
  clear hx hl hy hlc hlc2
  go_enter Try.func17, Try.ntmps17
  go_wp2_with (first
    | ((with_reducible refine gate_dst (N := 3) rfl ?_); refine box_event ?hg (N := 3) ?hd (cs := #[.int .i64 k, .int .i64 j]) (t := 23) ?hr ?_; (case hd => rfl); (case hg => rfl); (case hr => first | (go_simp; done) | (go_simp; rfl)); intro g1 hg w1 hbox hb; have GE1 := Aside0.mk (Nat.le_of_eq hg.symm); have BK1 := Aside0.mk hbox; have HX1 := Aside0.mk hb; clear hg hbox hb)
    | ((with_reducible refine gate_dst (N := 4) rfl ?_); refine box_event ?hg (N := 4) ?hd (cs := #[.int .u64 n, .int .i64 v, .slice A l c]) (t := 33) ?hr ?_; (case hd => rfl); (case hg => rfl); (case hr => first | (go_simp; done) | (go_simp; rfl)); intro g2 hg w2 hbox hb; have GE2 := Aside0.mk (Nat.le_of_eq hg.symm); have BK2 := Aside0.mk hbox; have HX2 := Aside0.mk hb; clear hg hbox hb)
    | (((with_reducible refine gate_dst (N := 5) rfl ?_); refine box_event ?hg (N := 5) ?hd (cs := #[.int .u64 n2, .int .i64 v2, .slice A2 l2 c2]) (t := 33) ?hr ?_; (case hd => rfl); (case hg => rfl); (case hr => first | (go_simp; done) | (go_simp; rfl)); intro g3 hg w3 hbox hb; have GE3 := Aside0.mk (Nat.le_of_eq hg.symm); have BK3 := Aside0.mk hbox; have HX3 := Aside0.mk hb; clear hg hbox hb); have BK1b := Aside0.mk (blk_below (blk_below BK1.out HX2.out) HX3.out); have BK2b := Aside0.mk (blk_below BK2.out HX3.out); have HB3 := Aside0.mk (below_then (below_then HX1.out HX1.out.size HX2.out) (Nat.le_trans HX1.out.size HX2.out.size) HX3.out); have HG2 := Aside0.mk (Nat.le_trans HX1.out.size GE2.out))
    | (((with_reducible refine gate_dst (N := 6) rfl ?_); refine box_event ?hg (N := 6) ?hd (cs := #[.int .u64 0, .int .i64 0, .slice none 0 0]) (t := 33) ?hr ?_; (case hd => rfl); (case hg => rfl); (case hr => first | (go_simp; done) | (go_simp; rfl)); intro g4 hg w4 hbox hb; have GE4 := Aside0.mk (Nat.le_of_eq hg.symm); have BK4 := Aside0.mk hbox; have HX4 := Aside0.mk hb; clear hg hbox hb); have BK1c := Aside0.mk (blk_below BK1b.out HX4.out); have BK2c := Aside0.mk (blk_below BK2b.out HX4.out); have BK3c := Aside0.mk (blk_below BK3.out HX4.out); have HB4 := Aside0.mk (below_then HB3.out HB3.out.size HX4.out); have HG4 := Aside0.mk (Nat.le_trans HB3.out.size GE4.out); (have hg1_0 : w4.cell? ⟨g1, 0, none⟩ = some (.int .i64 k) := (blk_cell BK1c.out 0).trans rfl; have hfg1_0 := blk_frozen BK1c.out 0; have hg1_1 : w4.cell? ⟨g1, 1, none⟩ = some (.int .i64 j) := (blk_cell BK1c.out 1).trans rfl; have hfg1_1 := blk_frozen BK1c.out 1); have hn24 : g2 ≠ g4 := (by have := blk_lt BK2b.out; have := GE4.out; omega); have hn34 : g3 ≠ g4 := (by have := blk_lt BK3.out; have := GE4.out; omega); have hn23 : g2 ≠ g3 := (by have := blk_lt BK2.out; have := GE3.out; omega))
    | (go_at_call 27; refine (HC _).mono ?_; rintro e w5 ⟨rfl, hb5⟩; have BK4b := Aside0.mk (blk_below BK4.out hb5); have BK2d := Aside0.mk (blk_below BK2c.out hb5); have BK3d := Aside0.mk (blk_below BK3c.out hb5); have HB5 := Aside0.mk (below_then HB4.out HB4.out.size hb5); clear hb5; clear hg1_0 hfg1_0 hg1_1 hfg1_1)
    | (((with_reducible refine gate_dst (N := 7) rfl ?_); refine box_event ?hg (N := 7) ?hd (cs := #[.bool false, .nilFunc, .nilFunc, .nilFunc]) (t := 61) ?hr ?_; (case hd => rfl); (case hg => rfl); (case hr => first | (go_simp; done) | (go_simp; rfl)); intro g6 hg w6 hbox hb; have GE6 := Aside0.mk (Nat.le_of_eq hg.symm); have BK6 := Aside0.mk hbox; have HX6 := Aside0.mk hb; clear hg hbox hb); have BK4c := Aside0.mk (blk_below BK4b.out HX6.out); have BK2e := Aside0.mk (blk_below BK2d.out HX6.out); have BK3e := Aside0.mk (blk_below BK3d.out HX6.out); have HB6 := Aside0.mk (below_then HB5.out HB5.out.size HX6.out); have HG6 := Aside0.mk (Nat.le_trans HB5.out.size GE6.out); (have hg6_0 : w6.cell? ⟨g6, 0, none⟩ = some (.bool false) := (blk_cell BK6.out 0).trans rfl; have hfg6_0 := blk_frozen BK6.out 0; have hg6_1 : w6.cell? ⟨g6, 1, none⟩ = some (.nilFunc) := (blk_cell BK6.out 1).trans rfl; have hfg6_1 := blk_frozen BK6.out 1; have hg6_2 : w6.cell? ⟨g6, 2, none⟩ = some (.nilFunc) := (blk_cell BK6.out 2).trans rfl; have hfg6_2 := blk_frozen BK6.out 2; have hg6_3 : w6.cell? ⟨g6, 3, none⟩ = some (.nilFunc) := (blk_cell BK6.out 3).trans rfl; have hfg6_3 := blk_frozen BK6.out 3); (have hg4_0 : w6.cell? ⟨g4, 0, none⟩ = some (.int .u64 0) := (blk_cell BK4c.out 0).trans rfl; have hfg4_0 := blk_frozen BK4c.out 0; have hg4_1 : w6.cell? ⟨g4, 1, none⟩ = some (.int .i64 0) := (blk_cell BK4c.out 1).trans rfl; have hfg4_1 := blk_frozen BK4c.out 1; have hg4_2 : w6.cell? ⟨g4, 2, none⟩ = some (.slice none 0 0) := (blk_cell BK4c.out 2).trans rfl; have hfg4_2 := blk_frozen BK4c.out 2); (have hg2_0 : w6.cell? ⟨g2, 0, none⟩ = some (.int .u64 n) := (blk_cell BK2e.out 0).trans rfl; have hfg2_0 := blk_frozen BK2e.out 0; have hg2_1 : w6.cell? ⟨g2, 1, none⟩ = some (.int .i64 v) := (blk_cell BK2e.out 1).trans rfl; have hfg2_1 := blk_frozen BK2e.out 1; have hg2_2 : w6.cell? ⟨g2, 2, none⟩ = some (.slice A l c) := (blk_cell BK2e.out 2).trans rfl; have hfg2_2 := blk_frozen BK2e.out 2); (have hg3_0 : w6.cell? ⟨g3, 0, none⟩ = some (.int .u64 n2) := (blk_cell BK3e.out 0).trans rfl; have hfg3_0 := blk_frozen BK3e.out 0; have hg3_1 : w6.cell? ⟨g3, 1, none⟩ = some (.int .i64 v2) := (blk_cell BK3e.out 1).trans rfl; have hfg3_1 := blk_frozen BK3e.out 1; have hg3_2 : w6.cell? ⟨g3, 2, none⟩ = some (.slice A2 l2 c2) := (blk_cell BK3e.out 2).trans rfl; have hfg3_2 := blk_frozen BK3e.out 2); have hn46 : g4 ≠ g6 := (by have := blk_lt BK4b.out; have := GE6.out; omega); have hn26 : g2 ≠ g6 := (by have := blk_lt BK2d.out; have := GE6.out; omega); have hn36 : g3 ≠ g6 := (by have := blk_lt BK3d.out; have := GE6.out; omega))
    | fail)
  have HLn := Aside0.mk (show xs.length = l from HX.out.1)
  have HLm := Aside0.mk (show ys.length = l2 from HY.out.1)
  obtain rfl := HLn.out
  obtain rfl := HLm.out
  go_wp2_with fail
  have HBW := Aside0.mk (show Below w.heap.size w (((((w6.setCell ⟨g6, 0, none⟩ ka).setCell ⟨g6, 1, none⟩ kb).setCell ⟨g6, 2, none⟩ (.nilFunc)).setCell ⟨g6, 3, none⟩ kd)) from (below_set (below_set (below_set (below_set HB6.out HG6.out) HG6.out) HG6.out) HG6.out))
  have BK2W := Aside0.mk (show (((((w6.setCell ⟨g6, 0, none⟩ ka).setCell ⟨g6, 1, none⟩ kb).setCell ⟨g6, 2, none⟩ (.nilFunc)).setCell ⟨g6, 3, none⟩ kd)).heap[g2]? = some (.cells #[.int .u64 (n), .int .i64 (v), .slice (A) (xs.length) (c)] 33 (0, 0)) from (blk_far (blk_far (blk_far (blk_far BK2e.out hn26 _) hn26 _) hn26 _) hn26 _))
  have BK3W := Aside0.mk (show (((((w6.setCell ⟨g6, 0, none⟩ ka).setCell ⟨g6, 1, none⟩ kb).setCell ⟨g6, 2, none⟩ (.nilFunc)).setCell ⟨g6, 3, none⟩ kd)).heap[g3]? = some (.cells #[.int .u64 n2, .int .i64 v2, .slice A2 (ys.length) c2] 33 (0, 0)) from (blk_far (blk_far (blk_far (blk_far BK3e.out hn36 _) hn36 _) hn36 _) hn36 _))
  have BK4W := Aside0.mk (show (((((w6.setCell ⟨g6, 0, none⟩ ka).setCell ⟨g6, 1, none⟩ kb).setCell ⟨g6, 2, none⟩ (.nilFunc)).setCell ⟨g6, 3, none⟩ kd)).heap[g4]? = some (.cells #[.int .u64 0, .int .i64 0, .slice none 0 0] 33 (0, 0)) from (blk_far (blk_far (blk_far (blk_far BK4c.out hn46 _) hn46 _) hn46 _) hn46 _))
  have HSz := Aside0.mk (show (((((w6.setCell ⟨g6, 0, none⟩ ka).setCell ⟨g6, 1, none⟩ kb).setCell ⟨g6, 2, none⟩ (.nilFunc)).setCell ⟨g6, 3, none⟩ kd)).heap.size = w6.heap.size by simp)
  clear hg6_0 hfg6_0 hg6_1 hfg6_1 hg6_2 hfg6_2 hg6_3 hfg6_3 hg4_0 hfg4_0 hg4_1 hfg4_1 hg4_2 hfg4_2 hg2_0 hfg2_0 hg2_1 hfg2_1 hg2_2 hfg2_2 hg3_0 hfg3_0 hg3_1 hfg3_1 hg3_2 hfg3_2
  generalize ((((w6.setCell ⟨g6, 0, none⟩ ka).setCell ⟨g6, 1, none⟩ kb).setCell ⟨g6, 2, none⟩ (.nilFunc)).setCell ⟨g6, 3, none⟩ kd) = wW at *
  (try rw [← HSz.out])
  have BK2a := Aside0.mk (blk_below BK2W.out (below_alloc (Below.refl wW.heap.size wW) (.cells #[.slice A xs.length c, .slice A2 ys.length c2] 31)))
  have BK3a := Aside0.mk (blk_below BK3W.out (below_alloc (Below.refl wW.heap.size wW) (.cells #[.slice A xs.length c, .slice A2 ys.length c2] 31)))
  have BK4a := Aside0.mk (blk_below BK4W.out (below_alloc (Below.refl wW.heap.size wW) (.cells #[.slice A xs.length c, .slice A2 ys.length c2] 31)))
  have HBa := Aside0.mk (below_alloc' HBW.out (.cells #[.slice A xs.length c, .slice A2 ys.length c2] 31))
  have HC2 := Aside0.mk (C_two (e := 9) (heap_alloc_new wW (.cells #[.slice A xs.length c, .slice A2 ys.length c2] 31)) (Kd.C_below HX.out HBa.out) (Kd.C_below HY.out HBa.out) HLc.out.1 HLc.out.2)
  obtain ⟨kk, hkk⟩ := concat_two xs ys HL.out
  refine (slices_Concat_string_string.calls kk _ 2 [xs, ys] (xs ++ ys) _ HC2.out (Nat.le_refl _) hkk).mono ?_
  rintro e w9 ⟨v9, rfl, ho9, hb9⟩
  clear hkk
  have HL9 := Aside0.mk (show (xs ++ ys).length ≤ 8796093022208 by rw [List.length_append]; have := HL.out; omega)
  generalize xs ++ ys = zs at *
  obtain ⟨A9, c9, rfl, hc9, -⟩ := Kd.R_reads ho9
  have BK2b9 := Aside0.mk (blk_below BK2a.out hb9)
  have BK3b9 := Aside0.mk (blk_below BK3a.out hb9)
  have BK4b9 := Aside0.mk (blk_below BK4a.out hb9)
  have HB9a := Aside0.mk (below_then HBa.out HBa.out.size hb9)
  have HO9a := Aside0.mk ho9
  have hn24' : g2 ≠ g4 := hn24
  clear ho9 hb9 hc9
  (have hg2_0 : w9.cell? ⟨g2, 0, none⟩ = some (.int .u64 n) := (blk_cell BK2b9.out 0).trans rfl; have hfg2_0 := blk_frozen BK2b9.out 0; have hg2_1 : w9.cell? ⟨g2, 1, none⟩ = some (.int .i64 (v)) := (blk_cell BK2b9.out 1).trans rfl; have hfg2_1 := blk_frozen BK2b9.out 1; have hg2_2 : w9.cell? ⟨g2, 2, none⟩ = some (.slice A xs.length c) := (blk_cell BK2b9.out 2).trans rfl; have hfg2_2 := blk_frozen BK2b9.out 2)
  have h39 : w9.cell? ⟨g3, 0, none⟩ = some (.int .u64 n2) := (blk_cell BK3b9.out 0).trans rfl
  go_wp2_with fail
  have HT9 := Aside0.mk (show ∀ q, q ∈ 9 :: Kd.string.E → q ≠ 33 by decide)
  have b91 := blk_set BK2b9.out 2 (.slice A9 zs.length c9)
  have b92 := blk_set b91 0 (.int .u64 (IntKind.u64.wrap (n + n2)))
  have HX9 := Aside0.mk (Kd.R_set (Kd.R_set HO9a.out BK2b9.out HT9.out 2 (.slice A9 zs.length c9)) b91 HT9.out 0 (.int .u64 (IntKind.u64.wrap (n + n2))))
  have BK2v := Aside0.mk (show ((w9.setCell ⟨g2, 2, none⟩ (.slice A9 zs.length c9)).setCell ⟨g2, 0, none⟩ (.int .u64 (IntKind.u64.wrap (n + n2)))).heap[g2]? = some (.cells #[.int .u64 (IntKind.u64.wrap (n + n2)), .int .i64 (v), .slice A9 zs.length c9] 33 (0, 0)) from b92)
  have BK4v := Aside0.mk (show ((w9.setCell ⟨g2, 2, none⟩ (.slice A9 zs.length c9)).setCell ⟨g2, 0, none⟩ (.int .u64 (IntKind.u64.wrap (n + n2)))).heap[g4]? = some (.cells #[.int .u64 0, .int .i64 0, .slice none 0 0] 33 (0, 0)) from blk_far (blk_far BK4b9.out hn24'.symm _) hn24'.symm _)
  have HBv := Aside0.mk (show Below w.heap.size w ((w9.setCell ⟨g2, 2, none⟩ (.slice A9 zs.length c9)).setCell ⟨g2, 0, none⟩ (.int .u64 (IntKind.u64.wrap (n + n2)))) from below_set (below_set HB9a.out HG2.out) HG2.out)
  clear b91 b92 hg2_0 hfg2_0 hg2_1 hfg2_1 hg2_2 hfg2_2 h39
  generalize (w9.setCell ⟨g2, 2, none⟩ (.slice A9 zs.length c9)).setCell ⟨g2, 0, none⟩ (.int .u64 (IntKind.u64.wrap (n + n2))) = wV at *
  have HXv := Aside0.mk (Kd.R_reads' HX9.out).2.2
  refine (clone_strings zs zs.length A9 c9 _ HXv.out (by have := HL9.out; omega)).mono ?_
  rintro e w7 ⟨v7, rfl, ho7, hb7⟩
  obtain ⟨A7, c7, rfl, -, -⟩ := Kd.R_reads ho7
  have HO7 := Aside0.mk ho7
  have HB7 := Aside0.mk (below_then HBv.out HBv.out.size hb7)
  have HN2 := Aside0.mk (show some g2 ≠ (Value.slice A7 zs.length c7).ownBlock from fun e => by have h1 := blk_lt BK2v.out; have h2 := Kd.R_base ho7 _ e.symm; omega)
  have HN4 := Aside0.mk (show some g4 ≠ (Value.slice A7 zs.length c7).ownBlock from fun e => by have h1 := blk_lt BK4v.out; have h2 := Kd.R_base ho7 _ e.symm; omega)
  have HBs := Aside0.mk (show ∀ k, (Value.slice A7 zs.length c7).ownBlock = some k → w.heap.size ≤ k from fun k e => Nat.le_trans HBv.out.size (Kd.R_base ho7 _ e))
  have BK2y := Aside0.mk (blk_below BK2v.out hb7)
  have BK4y := Aside0.mk (blk_below BK4v.out hb7)
  clear ho7 hb7
  go_wp2_with fail
  refine (sort_strings zs w7 _ (fun _ => True) A7 _ c7 HO7.out (by have := HL9.out; omega)).mono ?_
  rintro e w8 ⟨rfl, ho8, hg8⟩
  have HO8 := Aside0.mk ho8
  have HB8 := Aside0.mk (pw_below_grown HB7.out _ HB7.out.size hg8 (fun k hk => HBs.out k hk))
  have BK2z := Aside0.mk (blk_grown BK2y.out hg8 HN2.out)
  have BK4z := Aside0.mk (blk_grown BK4y.out hg8 HN4.out)
  have p0 : w8.cell? ⟨g2, 0, none⟩ = some (.int .u64 (IntKind.u64.wrap (n + n2))) := (blk_cell BK2z.out 0).trans rfl
  have p1 : w8.cell? ⟨g2, 1, none⟩ = some (.int .i64 v) := (blk_cell BK2z.out 1).trans rfl
  clear ho8 hg8 HO7
  go_wp2_with fail
  refine start_ (n := 8) (S := fun w' => w'.cell? ⟨g2, 0, none⟩ = some (.int .u64 (IntKind.u64.wrap (n + n2))) ∧ w'.cell? ⟨g2, 1, none⟩ = some (.int .i64 v)) (ds := [7]) #[false, false, false, false, false, false, false, false] (by kernel_rfl) rfl rfl ⟨p0, p1⟩ (fun hHeld => ?_)
  refine pure_ (i := 0) (N := some 67) (v := ?_) (a' := ?_) #[true, false, false, false, false, false, false, false] rfl rfl (by kernel_rfl) (fun _ _ _ h => h) (Or.inl ⟨by rfl, ?_⟩) ?_ ?_
  rotate_left
  · intro w'
    go_simp
    with_reducible rfl
  rotate_left
  · simp only [Act.put, List.setIfInBounds_toArray, List.set_cons_zero, List.set_cons_succ, i64_w, i32_w]
    rfl
  refine pure_ (i := 2) (N := some 69) (v := ?_) (a' := ?_) #[true, false, true, false, false, false, false, false] rfl rfl (by kernel_rfl) (fun _ _ _ h => h) (Or.inl ⟨by rfl, ?_⟩) ?_ ?_
  rotate_left
  · intro w'
    go_simp
    with_reducible rfl
  rotate_left
  · simp only [Act.put, List.setIfInBounds_toArray, List.set_cons_zero, List.set_cons_succ, i64_w, i32_w]
    rfl
  refine pure_ (i := 4) (N := some 71) (v := ?_) (a' := ?_) #[true, false, true, false, true, false, false, false] rfl rfl (by kernel_rfl) (fun _ _ _ h => h) (Or.inl ⟨by rfl, ?_⟩) ?_ ?_
  rotate_left
  · intro w'
    go_simp
    with_reducible rfl
  rotate_left
  · simp only [Act.put, List.setIfInBounds_toArray, List.set_cons_zero, List.set_cons_succ, i64_w, i32_w]
    rfl
  refine take_ (i := 1) (N := some 68) (v := ?_) (a' := ?_) #[true, true, true, false, true, false, false, false] rfl rfl (by kernel_rfl) (fun _ _ _ h => h) (Or.inl ⟨by rfl, ?_⟩) hHeld ?_ ?_
  rotate_left
  · rintro w' ⟨s0, s1⟩
    go_simp
    with_reducible rfl
  rotate_left
  · simp only [Act.put, List.setIfInBounds_toArray, List.set_cons_zero, List.set_cons_succ, i64_w, i32_w]
    rfl
  refine take_ (i := 3) (N := some 70) (v := ?_) (a' := ?_) #[true, true, true, true, true, false, false, false] rfl rfl (by kernel_rfl) (fun _ _ _ h => h) (Or.inl ⟨by rfl, ?_⟩) hHeld ?_ ?_
  rotate_left
  · rintro w' ⟨s0, s1⟩
    go_simp
    with_reducible rfl
  rotate_left
  · simp only [Act.put, List.setIfInBounds_toArray, List.set_cons_zero, List.set_cons_succ, i64_w, i32_w]
    rfl
  refine one_ (i := 5) (N := some 72) #[true, true, true, true, true, true, false, false] rfl rfl (by kernel_rfl) (by decide) (fun K hK => ?_)
  refine goes_ Try.func31 (by kernel_rfl) rfl #[.slice A7 zs.length c7] (by rfl) rfl rfl (by simp only [List.map_toArray, List.map_cons, List.map_nil]; rfl) ?_
  with_reducible refine (compact_strings (sortB zs) _ _ (fun _ => True) A7 _ c7 (Kd.R_drew HO8.out) (by rw [sortB_length]; have := HL9.out; omega)).mono ?_
  rintro e w9 ⟨v9, rfl, ho9, hv9, hg9⟩
  refine ⟨_, rfl, ?_⟩
  have BK2q := Aside0.mk (blk_grown (blk_drew BK2z.out) hg9 HN2.out)
  have BK4q := Aside0.mk (blk_grown (blk_drew BK4z.out) hg9 HN4.out)
  have HB9 := Aside0.mk (pw_below_grown (below_drew HB8.out) _ (below_drew HB8.out).size hg9 (fun k hk => HBs.out k hk))
  have hbd : ∀ u : World, (Instr.build 33 #[(0, .int .u64 (IntKind.u64.wrap (n + n2))), (1, .int .i64 v), (2, .slice A7 (compactB (sortB zs)).length c7)]).run Try.prog u = .ok (.agg #[.int .u64 (IntKind.u64.wrap (n + n2)), .int .i64 v, .slice A7 (compactB (sortB zs)).length c7]) u := fun u => run_build u _ _ _ (by kernel_rfl)
  subst hv9
  rw [built_is] at ho9 hbd ⊢
  have HO9 := Aside0.mk ho9
  have q0 : w9.cell? ⟨g2, 0, none⟩ = some (.int .u64 (IntKind.u64.wrap (n + n2))) := (blk_cell BK2q.out 0).trans rfl
  have q1 : w9.cell? ⟨g2, 1, none⟩ = some (.int .i64 v) := (blk_cell BK2q.out 1).trans rfl
  (have hg4_0 : w9.cell? ⟨g4, 0, none⟩ = some (.int .u64 0) := (blk_cell BK4q.out 0).trans rfl; have hfg4_0 := blk_frozen BK4q.out 0; have hg4_1 : w9.cell? ⟨g4, 1, none⟩ = some (.int .i64 0) := (blk_cell BK4q.out 1).trans rfl; have hfg4_1 := blk_frozen BK4q.out 1; have hg4_2 : w9.cell? ⟨g4, 2, none⟩ = some (.slice none 0 0) := (blk_cell BK4q.out 2).trans rfl; have hfg4_2 := blk_frozen BK4q.out 2)
  clear ho9 hg9
  refine hK.out _ _ ⟨q0, q1⟩ (fun hHeld => ?_)
  clear hK K
  refine norm_ (a' := ?_) ?_ ?_
  rotate_left
  · show Act.put _ (some 72) _ = _
    simp only [Act.put, List.setIfInBounds_toArray, List.set_cons_zero, List.set_cons_succ, i64_w, i32_w]
    rfl
  refine pure_ (i := 6) (N := some 73) (v := ?_) (a' := ?_) #[true, true, true, true, true, true, true, false] rfl rfl (by kernel_rfl) (fun _ _ _ h => h) (Or.inl ⟨by rfl, ?_⟩) ?_ ?_
  rotate_left
  · intro w'
    go_simp
    with_reducible rfl
  rotate_left
  · simp only [Act.put, List.setIfInBounds_toArray, List.set_cons_zero, List.set_cons_succ, i64_w, i32_w]
    rfl
  refine last_ (i := 7) (N := none) #[true, true, true, true, true, true, true, true] rfl rfl (by kernel_rfl) (by decide) (fun K hK => ?_)
  refine skip_ (w1 := ?_) (by rfl) rfl ?_ ?_
  rotate_left
  · go_simp
    rfl
  refine hK.out _ _ ?_
  clear hK K
  refine done_ (by kernel_rfl) ?_
  go_wp2_with fail
  have HT := Aside0.mk (show ∀ q, q ∈ 9 :: Kd.string.E → q ≠ 33 by decide)
  have b1 := blk_set BK4q.out 0 (.int .u64 ((IntKind.u64.wrap (n + n2))))
  have b2 := blk_set b1 1 (.int .i64 (v))
  have b3 := blk_set b2 2 (.slice A7 (builtB zs).length c7)
  have r1 := Kd.R_set (Kd.R_set (Kd.R_set HO9.out BK4q.out HT.out 0 (.int .u64 ((IntKind.u64.wrap (n + n2))))) b1 HT.out 1 (.int .i64 (v))) b2 HT.out 2 (.slice A7 (builtB zs).length c7)
  exact bodyPost_ret (results_cell_row rfl _ _ g4 33 #[.int .u64 ((IntKind.u64.wrap (n + n2))), .int .i64 (v), .slice A7 (builtB zs).length c7] (0, 0) _ rfl b3 Try.underlying33 rfl (by kernel_rfl)) rfl ⟨_, rfl, Kd.R_lower r1 HBv.out.size, below_set (below_set (below_set HB9.out HG4.out) HG4.out) HG4.out⟩
set_option maxRecDepth 100000 in
set_option maxHeartbeats 400000 in
theorem merge_fn (k j v v2 n n2 : Int) (A A2 : Option Addr) (l c l2 c2 : Nat) (w : World) (ka kb kc kd : Value) (e1 : (n == 0) = false) (e2 : (n2 == 0) = false) (xs ys : List ByteArray) (hx : Kd.C Kd.string w A l xs) (hy : Kd.C Kd.string w A2 l2 ys) (hl : xs.length + ys.length < 8796093022208) (hlc : l ≤ c) (hlc2 : l2 ≤ c2) (m : Nat) (hkc : kc = fn m) (f : Func) (hf : Try.prog.funcs[m]? = some f) (hname : (f.name == "runtime.NumGoroutine") = false) (hbody : f.body.isSome = true) (r : Int) (HV : Aside0 (∀ u, Calls Try.prog m #[.int .i64 v, .int .i64 v2] u fun e w' => e = .returned (.int .i64 r) ∧ Below u.heap.size u w')) (HC : Knows k j #[ka, kb, kc, kd] true)
    (h1 : ka.oneCell' = true) (h2 : kb.oneCell' = true) (h3 : kc.oneCell' = true) (h4 : kd.oneCell' = true) :
    Calls Try.prog 17 #[.agg #[.int .i64 k, .int .i64 j], .agg #[.int .u64 n, .int .i64 v, .slice A l c], .agg #[.int .u64 n2, .int .i64 v2, .slice A2 l2 c2]] w (Merged w (IntKind.u64.wrap (n + n2)) r (builtB (xs ++ ys))) := by
  have sa := store_fact h1
  have sb := store_fact h2
  have sc := store_fact h3
  have sd := store_fact h4
  clear h1 h2 h3 h4
  subst hkc
  have hcmp := fn_neq m
  have he := enters_ hf hname hbody
  clear hf hname hbody
  have e3 : (n2 != 0) = true := by rw [bne, e2]; rfl
  have HX := Aside0.mk hx
  have HY := Aside0.mk hy
  have HL := Aside0.mk hl
  have HLc := Aside0.mk (And.intro hlc hlc2)
  clear hx hl hy hlc hlc2
  go_enter Try.func17, Try.ntmps17
  go_wp2_with (first
    | ((with_reducible refine gate_dst (N := 3) rfl ?_); refine box_event ?hg (N := 3) ?hd (cs := #[.int .i64 k, .int .i64 j]) (t := 23) ?hr ?_; (case hd => rfl); (case hg => rfl); (case hr => first | (go_simp; done) | (go_simp; rfl)); intro g1 hg w1 hbox hb; have GE1 := Aside0.mk (Nat.le_of_eq hg.symm); have BK1 := Aside0.mk hbox; have HX1 := Aside0.mk hb; clear hg hbox hb)
    | ((with_reducible refine gate_dst (N := 4) rfl ?_); refine box_event ?hg (N := 4) ?hd (cs := #[.int .u64 n, .int .i64 v, .slice A l c]) (t := 33) ?hr ?_; (case hd => rfl); (case hg => rfl); (case hr => first | (go_simp; done) | (go_simp; rfl)); intro g2 hg w2 hbox hb; have GE2 := Aside0.mk (Nat.le_of_eq hg.symm); have BK2 := Aside0.mk hbox; have HX2 := Aside0.mk hb; clear hg hbox hb)
    | (((with_reducible refine gate_dst (N := 5) rfl ?_); refine box_event ?hg (N := 5) ?hd (cs := #[.int .u64 n2, .int .i64 v2, .slice A2 l2 c2]) (t := 33) ?hr ?_; (case hd => rfl); (case hg => rfl); (case hr => first | (go_simp; done) | (go_simp; rfl)); intro g3 hg w3 hbox hb; have GE3 := Aside0.mk (Nat.le_of_eq hg.symm); have BK3 := Aside0.mk hbox; have HX3 := Aside0.mk hb; clear hg hbox hb); have BK1b := Aside0.mk (blk_below (blk_below BK1.out HX2.out) HX3.out); have BK2b := Aside0.mk (blk_below BK2.out HX3.out); have HB3 := Aside0.mk (below_then (below_then HX1.out HX1.out.size HX2.out) (Nat.le_trans HX1.out.size HX2.out.size) HX3.out); have HG2 := Aside0.mk (Nat.le_trans HX1.out.size GE2.out))
    | (((with_reducible refine gate_dst (N := 6) rfl ?_); refine box_event ?hg (N := 6) ?hd (cs := #[.int .u64 0, .int .i64 0, .slice none 0 0]) (t := 33) ?hr ?_; (case hd => rfl); (case hg => rfl); (case hr => first | (go_simp; done) | (go_simp; rfl)); intro g4 hg w4 hbox hb; have GE4 := Aside0.mk (Nat.le_of_eq hg.symm); have BK4 := Aside0.mk hbox; have HX4 := Aside0.mk hb; clear hg hbox hb); have BK1c := Aside0.mk (blk_below BK1b.out HX4.out); have BK2c := Aside0.mk (blk_below BK2b.out HX4.out); have BK3c := Aside0.mk (blk_below BK3.out HX4.out); have HB4 := Aside0.mk (below_then HB3.out HB3.out.size HX4.out); have HG4 := Aside0.mk (Nat.le_trans HB3.out.size GE4.out); (have hg1_0 : w4.cell? ⟨g1, 0, none⟩ = some (.int .i64 k) := (blk_cell BK1c.out 0).trans rfl; have hfg1_0 := blk_frozen BK1c.out 0; have hg1_1 : w4.cell? ⟨g1, 1, none⟩ = some (.int .i64 j) := (blk_cell BK1c.out 1).trans rfl; have hfg1_1 := blk_frozen BK1c.out 1); have hn24 : g2 ≠ g4 := (by have := blk_lt BK2b.out; have := GE4.out; omega); have hn34 : g3 ≠ g4 := (by have := blk_lt BK3.out; have := GE4.out; omega); have hn23 : g2 ≠ g3 := (by have := blk_lt BK2.out; have := GE3.out; omega))
    | (go_at_call 27; refine (HC _).mono ?_; rintro e w5 ⟨rfl, hb5⟩; have BK4b := Aside0.mk (blk_below BK4.out hb5); have BK2d := Aside0.mk (blk_below BK2c.out hb5); have BK3d := Aside0.mk (blk_below BK3c.out hb5); have HB5 := Aside0.mk (below_then HB4.out HB4.out.size hb5); clear hb5; clear hg1_0 hfg1_0 hg1_1 hfg1_1)
    | (((with_reducible refine gate_dst (N := 7) rfl ?_); refine box_event ?hg (N := 7) ?hd (cs := #[.bool false, .nilFunc, .nilFunc, .nilFunc]) (t := 61) ?hr ?_; (case hd => rfl); (case hg => rfl); (case hr => first | (go_simp; done) | (go_simp; rfl)); intro g6 hg w6 hbox hb; have GE6 := Aside0.mk (Nat.le_of_eq hg.symm); have BK6 := Aside0.mk hbox; have HX6 := Aside0.mk hb; clear hg hbox hb); have BK4c := Aside0.mk (blk_below BK4b.out HX6.out); have BK2e := Aside0.mk (blk_below BK2d.out HX6.out); have BK3e := Aside0.mk (blk_below BK3d.out HX6.out); have HB6 := Aside0.mk (below_then HB5.out HB5.out.size HX6.out); have HG6 := Aside0.mk (Nat.le_trans HB5.out.size GE6.out); (have hg6_0 : w6.cell? ⟨g6, 0, none⟩ = some (.bool false) := (blk_cell BK6.out 0).trans rfl; have hfg6_0 := blk_frozen BK6.out 0; have hg6_1 : w6.cell? ⟨g6, 1, none⟩ = some (.nilFunc) := (blk_cell BK6.out 1).trans rfl; have hfg6_1 := blk_frozen BK6.out 1; have hg6_2 : w6.cell? ⟨g6, 2, none⟩ = some (.nilFunc) := (blk_cell BK6.out 2).trans rfl; have hfg6_2 := blk_frozen BK6.out 2; have hg6_3 : w6.cell? ⟨g6, 3, none⟩ = some (.nilFunc) := (blk_cell BK6.out 3).trans rfl; have hfg6_3 := blk_frozen BK6.out 3); (have hg4_0 : w6.cell? ⟨g4, 0, none⟩ = some (.int .u64 0) := (blk_cell BK4c.out 0).trans rfl; have hfg4_0 := blk_frozen BK4c.out 0; have hg4_1 : w6.cell? ⟨g4, 1, none⟩ = some (.int .i64 0) := (blk_cell BK4c.out 1).trans rfl; have hfg4_1 := blk_frozen BK4c.out 1; have hg4_2 : w6.cell? ⟨g4, 2, none⟩ = some (.slice none 0 0) := (blk_cell BK4c.out 2).trans rfl; have hfg4_2 := blk_frozen BK4c.out 2); (have hg2_0 : w6.cell? ⟨g2, 0, none⟩ = some (.int .u64 n) := (blk_cell BK2e.out 0).trans rfl; have hfg2_0 := blk_frozen BK2e.out 0; have hg2_1 : w6.cell? ⟨g2, 1, none⟩ = some (.int .i64 v) := (blk_cell BK2e.out 1).trans rfl; have hfg2_1 := blk_frozen BK2e.out 1; have hg2_2 : w6.cell? ⟨g2, 2, none⟩ = some (.slice A l c) := (blk_cell BK2e.out 2).trans rfl; have hfg2_2 := blk_frozen BK2e.out 2); (have hg3_0 : w6.cell? ⟨g3, 0, none⟩ = some (.int .u64 n2) := (blk_cell BK3e.out 0).trans rfl; have hfg3_0 := blk_frozen BK3e.out 0; have hg3_1 : w6.cell? ⟨g3, 1, none⟩ = some (.int .i64 v2) := (blk_cell BK3e.out 1).trans rfl; have hfg3_1 := blk_frozen BK3e.out 1; have hg3_2 : w6.cell? ⟨g3, 2, none⟩ = some (.slice A2 l2 c2) := (blk_cell BK3e.out 2).trans rfl; have hfg3_2 := blk_frozen BK3e.out 2); have hn46 : g4 ≠ g6 := (by have := blk_lt BK4b.out; have := GE6.out; omega); have hn26 : g2 ≠ g6 := (by have := blk_lt BK2d.out; have := GE6.out; omega); have hn36 : g3 ≠ g6 := (by have := blk_lt BK3d.out; have := GE6.out; omega))
    | fail)
  have HLn := Aside0.mk (show xs.length = l from HX.out.1)
  have HLm := Aside0.mk (show ys.length = l2 from HY.out.1)
  obtain rfl := HLn.out
  obtain rfl := HLm.out
  have HBW := Aside0.mk (show Below w.heap.size w (((((w6.setCell ⟨g6, 0, none⟩ ka).setCell ⟨g6, 1, none⟩ kb).setCell ⟨g6, 2, none⟩ (.func (.func m) #[] #[])).setCell ⟨g6, 3, none⟩ kd)) from (below_set (below_set (below_set (below_set HB6.out HG6.out) HG6.out) HG6.out) HG6.out))
  have BK2W := Aside0.mk (show (((((w6.setCell ⟨g6, 0, none⟩ ka).setCell ⟨g6, 1, none⟩ kb).setCell ⟨g6, 2, none⟩ (.func (.func m) #[] #[])).setCell ⟨g6, 3, none⟩ kd)).heap[g2]? = some (.cells #[.int .u64 (n), .int .i64 (v), .slice (A) (xs.length) (c)] 33 (0, 0)) from (blk_far (blk_far (blk_far (blk_far BK2e.out hn26 _) hn26 _) hn26 _) hn26 _))
  have BK3W := Aside0.mk (show (((((w6.setCell ⟨g6, 0, none⟩ ka).setCell ⟨g6, 1, none⟩ kb).setCell ⟨g6, 2, none⟩ (.func (.func m) #[] #[])).setCell ⟨g6, 3, none⟩ kd)).heap[g3]? = some (.cells #[.int .u64 n2, .int .i64 v2, .slice A2 (ys.length) c2] 33 (0, 0)) from (blk_far (blk_far (blk_far (blk_far BK3e.out hn36 _) hn36 _) hn36 _) hn36 _))
  have BK4W := Aside0.mk (show (((((w6.setCell ⟨g6, 0, none⟩ ka).setCell ⟨g6, 1, none⟩ kb).setCell ⟨g6, 2, none⟩ (.func (.func m) #[] #[])).setCell ⟨g6, 3, none⟩ kd)).heap[g4]? = some (.cells #[.int .u64 0, .int .i64 0, .slice none 0 0] 33 (0, 0)) from (blk_far (blk_far (blk_far (blk_far BK4c.out hn46 _) hn46 _) hn46 _) hn46 _))
  have HSz := Aside0.mk (show (((((w6.setCell ⟨g6, 0, none⟩ ka).setCell ⟨g6, 1, none⟩ kb).setCell ⟨g6, 2, none⟩ (.func (.func m) #[] #[])).setCell ⟨g6, 3, none⟩ kd)).heap.size = w6.heap.size by simp)
  clear hg6_0 hfg6_0 hg6_1 hfg6_1 hg6_2 hfg6_2 hg6_3 hfg6_3 hg4_0 hfg4_0 hg4_1 hfg4_1 hg4_2 hfg4_2 hg2_0 hfg2_0 hg2_1 hfg2_1 hg2_2 hfg2_2 hg3_0 hfg3_0 hg3_1 hfg3_1 hg3_2 hfg3_2
  generalize ((((w6.setCell ⟨g6, 0, none⟩ ka).setCell ⟨g6, 1, none⟩ kb).setCell ⟨g6, 2, none⟩ (.func (.func m) #[] #[])).setCell ⟨g6, 3, none⟩ kd) = wW at *
  (try rw [← HSz.out])
  refine (HV.out _).mono ?_
  rintro e w7 ⟨rfl, hb7⟩
  have HB7a := Aside0.mk (below_then HBW.out HBW.out.size hb7)
  have BK2x := Aside0.mk (blk_below BK2W.out hb7)
  have BK3x := Aside0.mk (blk_below BK3W.out hb7)
  have BK4x := Aside0.mk (blk_below BK4W.out hb7)
  clear hb7
  (have hg2_0 : w7.cell? ⟨g2, 0, none⟩ = some (.int .u64 n) := (blk_cell BK2x.out 0).trans rfl; have hfg2_0 := blk_frozen BK2x.out 0; have hg2_1 : w7.cell? ⟨g2, 1, none⟩ = some (.int .i64 v) := (blk_cell BK2x.out 1).trans rfl; have hfg2_1 := blk_frozen BK2x.out 1; have hg2_2 : w7.cell? ⟨g2, 2, none⟩ = some (.slice A xs.length c) := (blk_cell BK2x.out 2).trans rfl; have hfg2_2 := blk_frozen BK2x.out 2)
  (have hg3_0 : w7.cell? ⟨g3, 0, none⟩ = some (.int .u64 n2) := (blk_cell BK3x.out 0).trans rfl; have hfg3_0 := blk_frozen BK3x.out 0; have hg3_1 : w7.cell? ⟨g3, 1, none⟩ = some (.int .i64 v2) := (blk_cell BK3x.out 1).trans rfl; have hfg3_1 := blk_frozen BK3x.out 1; have hg3_2 : w7.cell? ⟨g3, 2, none⟩ = some (.slice A2 ys.length c2) := (blk_cell BK3x.out 2).trans rfl; have hfg3_2 := blk_frozen BK3x.out 2)
  go_wp2_with fail
  have HBy := Aside0.mk (show Below w.heap.size w (w7.setCell ⟨g2, 1, none⟩ (.int .i64 r)) from below_set HB7a.out HG2.out)
  have BK2y := Aside0.mk (show (w7.setCell ⟨g2, 1, none⟩ (.int .i64 r)).heap[g2]? = some (.cells #[.int .u64 n, .int .i64 r, .slice A xs.length c] 33 (0, 0)) from blk_set BK2x.out 1 _)
  have BK3y := Aside0.mk (show (w7.setCell ⟨g2, 1, none⟩ (.int .i64 r)).heap[g3]? = some (.cells #[.int .u64 n2, .int .i64 v2, .slice A2 ys.length c2] 33 (0, 0)) from blk_far BK3x.out hn23.symm _)
  have BK4y := Aside0.mk (show (w7.setCell ⟨g2, 1, none⟩ (.int .i64 r)).heap[g4]? = some (.cells #[.int .u64 0, .int .i64 0, .slice none 0 0] 33 (0, 0)) from blk_far BK4x.out hn24.symm _)
  have HSy := Aside0.mk (show (w7.setCell ⟨g2, 1, none⟩ (.int .i64 r)).heap.size = w7.heap.size by simp)
  clear hg2_0 hfg2_0 hg2_1 hfg2_1 hg2_2 hfg2_2
  clear hg3_0 hfg3_0 hg3_1 hfg3_1 hg3_2 hfg3_2
  generalize w7.setCell ⟨g2, 1, none⟩ (.int .i64 r) = wy at *
  rw [← HSy.out]
  have BK2a := Aside0.mk (blk_below BK2y.out (below_alloc (Below.refl wy.heap.size wy) (.cells #[.slice A xs.length c, .slice A2 ys.length c2] 31)))
  have BK3a := Aside0.mk (blk_below BK3y.out (below_alloc (Below.refl wy.heap.size wy) (.cells #[.slice A xs.length c, .slice A2 ys.length c2] 31)))
  have BK4a := Aside0.mk (blk_below BK4y.out (below_alloc (Below.refl wy.heap.size wy) (.cells #[.slice A xs.length c, .slice A2 ys.length c2] 31)))
  have HBa := Aside0.mk (below_alloc' HBy.out (.cells #[.slice A xs.length c, .slice A2 ys.length c2] 31))
  have HC2 := Aside0.mk (C_two (e := 9) (heap_alloc_new wy (.cells #[.slice A xs.length c, .slice A2 ys.length c2] 31)) (Kd.C_below HX.out HBa.out) (Kd.C_below HY.out HBa.out) HLc.out.1 HLc.out.2)
  obtain ⟨kk, hkk⟩ := concat_two xs ys HL.out
  refine (slices_Concat_string_string.calls kk _ 2 [xs, ys] (xs ++ ys) _ HC2.out (Nat.le_refl _) hkk).mono ?_
  rintro e w9 ⟨v9, rfl, ho9, hb9⟩
  clear hkk
  have HL9 := Aside0.mk (show (xs ++ ys).length ≤ 8796093022208 by rw [List.length_append]; have := HL.out; omega)
  generalize xs ++ ys = zs at *
  obtain ⟨A9, c9, rfl, hc9, -⟩ := Kd.R_reads ho9
  have BK2b9 := Aside0.mk (blk_below BK2a.out hb9)
  have BK3b9 := Aside0.mk (blk_below BK3a.out hb9)
  have BK4b9 := Aside0.mk (blk_below BK4a.out hb9)
  have HB9a := Aside0.mk (below_then HBa.out HBa.out.size hb9)
  have HO9a := Aside0.mk ho9
  have hn24' : g2 ≠ g4 := hn24
  clear ho9 hb9 hc9
  (have hg2_0 : w9.cell? ⟨g2, 0, none⟩ = some (.int .u64 n) := (blk_cell BK2b9.out 0).trans rfl; have hfg2_0 := blk_frozen BK2b9.out 0; have hg2_1 : w9.cell? ⟨g2, 1, none⟩ = some (.int .i64 (r)) := (blk_cell BK2b9.out 1).trans rfl; have hfg2_1 := blk_frozen BK2b9.out 1; have hg2_2 : w9.cell? ⟨g2, 2, none⟩ = some (.slice A xs.length c) := (blk_cell BK2b9.out 2).trans rfl; have hfg2_2 := blk_frozen BK2b9.out 2)
  have h39 : w9.cell? ⟨g3, 0, none⟩ = some (.int .u64 n2) := (blk_cell BK3b9.out 0).trans rfl
  go_wp2_with fail
  have HT9 := Aside0.mk (show ∀ q, q ∈ 9 :: Kd.string.E → q ≠ 33 by decide)
  have b91 := blk_set BK2b9.out 2 (.slice A9 zs.length c9)
  have b92 := blk_set b91 0 (.int .u64 (IntKind.u64.wrap (n + n2)))
  have HX9 := Aside0.mk (Kd.R_set (Kd.R_set HO9a.out BK2b9.out HT9.out 2 (.slice A9 zs.length c9)) b91 HT9.out 0 (.int .u64 (IntKind.u64.wrap (n + n2))))
  have BK2v := Aside0.mk (show ((w9.setCell ⟨g2, 2, none⟩ (.slice A9 zs.length c9)).setCell ⟨g2, 0, none⟩ (.int .u64 (IntKind.u64.wrap (n + n2)))).heap[g2]? = some (.cells #[.int .u64 (IntKind.u64.wrap (n + n2)), .int .i64 (r), .slice A9 zs.length c9] 33 (0, 0)) from b92)
  have BK4v := Aside0.mk (show ((w9.setCell ⟨g2, 2, none⟩ (.slice A9 zs.length c9)).setCell ⟨g2, 0, none⟩ (.int .u64 (IntKind.u64.wrap (n + n2)))).heap[g4]? = some (.cells #[.int .u64 0, .int .i64 0, .slice none 0 0] 33 (0, 0)) from blk_far (blk_far BK4b9.out hn24'.symm _) hn24'.symm _)
  have HBv := Aside0.mk (show Below w.heap.size w ((w9.setCell ⟨g2, 2, none⟩ (.slice A9 zs.length c9)).setCell ⟨g2, 0, none⟩ (.int .u64 (IntKind.u64.wrap (n + n2)))) from below_set (below_set HB9a.out HG2.out) HG2.out)
  clear b91 b92 hg2_0 hfg2_0 hg2_1 hfg2_1 hg2_2 hfg2_2 h39
  generalize (w9.setCell ⟨g2, 2, none⟩ (.slice A9 zs.length c9)).setCell ⟨g2, 0, none⟩ (.int .u64 (IntKind.u64.wrap (n + n2))) = wV at *
  have HXv := Aside0.mk (Kd.R_reads' HX9.out).2.2
  refine (clone_strings zs zs.length A9 c9 _ HXv.out (by have := HL9.out; omega)).mono ?_
  rintro e w7 ⟨v7, rfl, ho7, hb7⟩
  obtain ⟨A7, c7, rfl, -, -⟩ := Kd.R_reads ho7
  have HO7 := Aside0.mk ho7
  have HB7 := Aside0.mk (below_then HBv.out HBv.out.size hb7)
  have HN2 := Aside0.mk (show some g2 ≠ (Value.slice A7 zs.length c7).ownBlock from fun e => by have h1 := blk_lt BK2v.out; have h2 := Kd.R_base ho7 _ e.symm; omega)
  have HN4 := Aside0.mk (show some g4 ≠ (Value.slice A7 zs.length c7).ownBlock from fun e => by have h1 := blk_lt BK4v.out; have h2 := Kd.R_base ho7 _ e.symm; omega)
  have HBs := Aside0.mk (show ∀ k, (Value.slice A7 zs.length c7).ownBlock = some k → w.heap.size ≤ k from fun k e => Nat.le_trans HBv.out.size (Kd.R_base ho7 _ e))
  have BK2y := Aside0.mk (blk_below BK2v.out hb7)
  have BK4y := Aside0.mk (blk_below BK4v.out hb7)
  clear ho7 hb7
  go_wp2_with fail
  refine (sort_strings zs w7 _ (fun _ => True) A7 _ c7 HO7.out (by have := HL9.out; omega)).mono ?_
  rintro e w8 ⟨rfl, ho8, hg8⟩
  have HO8 := Aside0.mk ho8
  have HB8 := Aside0.mk (pw_below_grown HB7.out _ HB7.out.size hg8 (fun k hk => HBs.out k hk))
  have BK2z := Aside0.mk (blk_grown BK2y.out hg8 HN2.out)
  have BK4z := Aside0.mk (blk_grown BK4y.out hg8 HN4.out)
  have p0 : w8.cell? ⟨g2, 0, none⟩ = some (.int .u64 (IntKind.u64.wrap (n + n2))) := (blk_cell BK2z.out 0).trans rfl
  have p1 : w8.cell? ⟨g2, 1, none⟩ = some (.int .i64 r) := (blk_cell BK2z.out 1).trans rfl
  clear ho8 hg8 HO7
  go_wp2_with fail
  refine start_ (n := 8) (S := fun w' => w'.cell? ⟨g2, 0, none⟩ = some (.int .u64 (IntKind.u64.wrap (n + n2))) ∧ w'.cell? ⟨g2, 1, none⟩ = some (.int .i64 r)) (ds := [7]) #[false, false, false, false, false, false, false, false] (by kernel_rfl) rfl rfl ⟨p0, p1⟩ (fun hHeld => ?_)
  refine pure_ (i := 0) (N := some 67) (v := ?_) (a' := ?_) #[true, false, false, false, false, false, false, false] rfl rfl (by kernel_rfl) (fun _ _ _ h => h) (Or.inl ⟨by rfl, ?_⟩) ?_ ?_
  rotate_left
  · intro w'
    go_simp
    with_reducible rfl
  rotate_left
  · simp only [Act.put, List.setIfInBounds_toArray, List.set_cons_zero, List.set_cons_succ, i64_w, i32_w]
    rfl
  refine pure_ (i := 2) (N := some 69) (v := ?_) (a' := ?_) #[true, false, true, false, false, false, false, false] rfl rfl (by kernel_rfl) (fun _ _ _ h => h) (Or.inl ⟨by rfl, ?_⟩) ?_ ?_
  rotate_left
  · intro w'
    go_simp
    with_reducible rfl
  rotate_left
  · simp only [Act.put, List.setIfInBounds_toArray, List.set_cons_zero, List.set_cons_succ, i64_w, i32_w]
    rfl
  refine pure_ (i := 4) (N := some 71) (v := ?_) (a' := ?_) #[true, false, true, false, true, false, false, false] rfl rfl (by kernel_rfl) (fun _ _ _ h => h) (Or.inl ⟨by rfl, ?_⟩) ?_ ?_
  rotate_left
  · intro w'
    go_simp
    with_reducible rfl
  rotate_left
  · simp only [Act.put, List.setIfInBounds_toArray, List.set_cons_zero, List.set_cons_succ, i64_w, i32_w]
    rfl
  refine take_ (i := 1) (N := some 68) (v := ?_) (a' := ?_) #[true, true, true, false, true, false, false, false] rfl rfl (by kernel_rfl) (fun _ _ _ h => h) (Or.inl ⟨by rfl, ?_⟩) hHeld ?_ ?_
  rotate_left
  · rintro w' ⟨s0, s1⟩
    go_simp
    with_reducible rfl
  rotate_left
  · simp only [Act.put, List.setIfInBounds_toArray, List.set_cons_zero, List.set_cons_succ, i64_w, i32_w]
    rfl
  refine take_ (i := 3) (N := some 70) (v := ?_) (a' := ?_) #[true, true, true, true, true, false, false, false] rfl rfl (by kernel_rfl) (fun _ _ _ h => h) (Or.inl ⟨by rfl, ?_⟩) hHeld ?_ ?_
  rotate_left
  · rintro w' ⟨s0, s1⟩
    go_simp
    with_reducible rfl
  rotate_left
  · simp only [Act.put, List.setIfInBounds_toArray, List.set_cons_zero, List.set_cons_succ, i64_w, i32_w]
    rfl
  refine one_ (i := 5) (N := some 72) #[true, true, true, true, true, true, false, false] rfl rfl (by kernel_rfl) (by decide) (fun K hK => ?_)
  refine goes_ Try.func31 (by kernel_rfl) rfl #[.slice A7 zs.length c7] (by rfl) rfl rfl (by simp only [List.map_toArray, List.map_cons, List.map_nil]; rfl) ?_
  with_reducible refine (compact_strings (sortB zs) _ _ (fun _ => True) A7 _ c7 (Kd.R_drew HO8.out) (by rw [sortB_length]; have := HL9.out; omega)).mono ?_
  rintro e w9 ⟨v9, rfl, ho9, hv9, hg9⟩
  refine ⟨_, rfl, ?_⟩
  have BK2q := Aside0.mk (blk_grown (blk_drew BK2z.out) hg9 HN2.out)
  have BK4q := Aside0.mk (blk_grown (blk_drew BK4z.out) hg9 HN4.out)
  have HB9 := Aside0.mk (pw_below_grown (below_drew HB8.out) _ (below_drew HB8.out).size hg9 (fun k hk => HBs.out k hk))
  have hbd : ∀ u : World, (Instr.build 33 #[(0, .int .u64 (IntKind.u64.wrap (n + n2))), (1, .int .i64 r), (2, .slice A7 (compactB (sortB zs)).length c7)]).run Try.prog u = .ok (.agg #[.int .u64 (IntKind.u64.wrap (n + n2)), .int .i64 r, .slice A7 (compactB (sortB zs)).length c7]) u := fun u => run_build u _ _ _ (by kernel_rfl)
  subst hv9
  rw [built_is] at ho9 hbd ⊢
  have HO9 := Aside0.mk ho9
  have q0 : w9.cell? ⟨g2, 0, none⟩ = some (.int .u64 (IntKind.u64.wrap (n + n2))) := (blk_cell BK2q.out 0).trans rfl
  have q1 : w9.cell? ⟨g2, 1, none⟩ = some (.int .i64 r) := (blk_cell BK2q.out 1).trans rfl
  (have hg4_0 : w9.cell? ⟨g4, 0, none⟩ = some (.int .u64 0) := (blk_cell BK4q.out 0).trans rfl; have hfg4_0 := blk_frozen BK4q.out 0; have hg4_1 : w9.cell? ⟨g4, 1, none⟩ = some (.int .i64 0) := (blk_cell BK4q.out 1).trans rfl; have hfg4_1 := blk_frozen BK4q.out 1; have hg4_2 : w9.cell? ⟨g4, 2, none⟩ = some (.slice none 0 0) := (blk_cell BK4q.out 2).trans rfl; have hfg4_2 := blk_frozen BK4q.out 2)
  clear ho9 hg9
  refine hK.out _ _ ⟨q0, q1⟩ (fun hHeld => ?_)
  clear hK K
  refine norm_ (a' := ?_) ?_ ?_
  rotate_left
  · show Act.put _ (some 72) _ = _
    simp only [Act.put, List.setIfInBounds_toArray, List.set_cons_zero, List.set_cons_succ, i64_w, i32_w]
    rfl
  refine pure_ (i := 6) (N := some 73) (v := ?_) (a' := ?_) #[true, true, true, true, true, true, true, false] rfl rfl (by kernel_rfl) (fun _ _ _ h => h) (Or.inl ⟨by rfl, ?_⟩) ?_ ?_
  rotate_left
  · intro w'
    go_simp
    with_reducible rfl
  rotate_left
  · simp only [Act.put, List.setIfInBounds_toArray, List.set_cons_zero, List.set_cons_succ, i64_w, i32_w]
    rfl
  refine last_ (i := 7) (N := none) #[true, true, true, true, true, true, true, true] rfl rfl (by kernel_rfl) (by decide) (fun K hK => ?_)
  refine skip_ (w1 := ?_) (by rfl) rfl ?_ ?_
  rotate_left
  · go_simp
    rfl
  refine hK.out _ _ ?_
  clear hK K
  refine done_ (by kernel_rfl) ?_
  go_wp2_with fail
  have HT := Aside0.mk (show ∀ q, q ∈ 9 :: Kd.string.E → q ≠ 33 by decide)
  have b1 := blk_set BK4q.out 0 (.int .u64 ((IntKind.u64.wrap (n + n2))))
  have b2 := blk_set b1 1 (.int .i64 (r))
  have b3 := blk_set b2 2 (.slice A7 (builtB zs).length c7)
  have r1 := Kd.R_set (Kd.R_set (Kd.R_set HO9.out BK4q.out HT.out 0 (.int .u64 ((IntKind.u64.wrap (n + n2))))) b1 HT.out 1 (.int .i64 (r))) b2 HT.out 2 (.slice A7 (builtB zs).length c7)
  exact bodyPost_ret (results_cell_row rfl _ _ g4 33 #[.int .u64 ((IntKind.u64.wrap (n + n2))), .int .i64 (r), .slice A7 (builtB zs).length c7] (0, 0) _ rfl b3 Try.underlying33 rfl (by kernel_rfl)) rfl ⟨_, rfl, Kd.R_lower r1 HBv.out.size, below_set (below_set (below_set HB9.out HG4.out) HG4.out) HG4.out⟩
end Go.Proofs.Ytmjhgeinhhhodaa.P
end

section
namespace Go.Proofs.Ytmjhgeinhhhodaa.P
set_option linter.unusedVariables false
set_option linter.unusedSimpArgs false
open Go.RowKit Go.Proofs.YtmjhgeinhhhodaaW.PrintWords Go.Proofs.YtmjhgeinhhhodaaW.PrintLast Go.Proofs.YtmjhgeinhhhodaaW.PrintMore Go.Proofs.Ytmjhgeinhhhodaa.Lib
set_option maxRecDepth 100000 in
set_option maxHeartbeats 400000 in
theorem mer_sum (v w_ : Int) (w : World) : Calls Try.prog 50 #[.int .i64 v, .int .i64 w_] w fun e w' => e = .returned (.int .i64 (wrap64 (v + w_))) ∧ Below w.heap.size w w' := by
  go_enter Try.func50, Try.ntmps50
  go_wp2
  go_ret
  exact ⟨rfl, Below.refl _ _⟩
set_option maxRecDepth 100000 in
set_option maxHeartbeats 400000 in
theorem mer_min (v w_ : Int) (w : World) : Calls Try.prog 52 #[.int .i64 v, .int .i64 w_] w fun e w' => e = .returned (.int .i64 (min v w_)) ∧ Below w.heap.size w w' := by
  go_enter Try.func52, Try.ntmps52
  go_wp2
  go_ret
  exact ⟨rfl, Below.refl _ _⟩
set_option maxRecDepth 100000 in
set_option maxHeartbeats 400000 in
theorem mer_max (v w_ : Int) (w : World) : Calls Try.prog 53 #[.int .i64 v, .int .i64 w_] w fun e w' => e = .returned (.int .i64 (max v w_)) ∧ Below w.heap.size w w' := by
  go_enter Try.func53, Try.ntmps53
  go_wp2
  go_ret
  exact ⟨rfl, Below.refl _ _⟩
def mergeV (k v w : Int) : Int := if k = 2 then wrap64 (v + w) else if k = 3 then min v w else if k = 4 then max v w else v
def mfin (n v : Int) (l : List ByteArray) : Option (Int × Int × List ByteArray) := if l.length < 8796093022208 then some (n, v, builtB l) else none
def agg_Merge.f (a0_0 a0_1 a1_0 a1_1 : Int) (l1_2 : List ByteArray) (a2_0 a2_1 : Int) (l2_2 : List ByteArray) : Option (Int × Int × List ByteArray) :=
  if a0_0 < 1 ∨ 5 < a0_0 then some (0, 0, [])
  else if a1_0 = 0 then (if a2_0 = 0 then some (0, 0, []) else mfin a2_0 a2_1 l2_2)
  else if a2_0 = 0 then mfin a1_0 a1_1 l1_2
  else mfin (IntKind.u64.wrap (a1_0 + a2_0)) (mergeV a0_0 a1_1 a2_1) (l1_2 ++ l2_2)
theorem agg_Merge.calls (a0_0 a0_1 a1_0 a1_1 : Int) (A1_2 : Option Addr) (c1_2 : Nat) (l1_2 : List ByteArray) (a2_0 a2_1 : Int) (A2_2 : Option Addr) (c2_2 : Nat) (l2_2 : List ByteArray) (r1 r2 : Int) (r3 : List ByteArray) (w : World)
    (hr1_2 : Kd.C Kd.string w A1_2 l1_2.length l1_2) (hc1_2 : l1_2.length ≤ c1_2) (hr2_2 : Kd.C Kd.string w A2_2 l2_2.length l2_2) (hc2_2 : l2_2.length ≤ c2_2) (h : agg_Merge.f a0_0 a0_1 a1_0 a1_1 l1_2 a2_0 a2_1 l2_2 = some (r1, r2, r3)) :
    Calls Try.prog 17 #[.agg #[.int .i64 a0_0, .int .i64 a0_1], .agg #[.int .u64 a1_0, .int .i64 a1_1, .slice A1_2 l1_2.length c1_2], .agg #[.int .u64 a2_0, .int .i64 a2_1, .slice A2_2 l2_2.length c2_2]] w
      fun e w' => ∃ v2_ : Value, e = .returned (.agg #[.int .u64 r1, .int .i64 r2, v2_]) ∧ Kd.R Kd.string 9 w' w.heap.size (fun _ => True) v2_ r3 ∧ Below w.heap.size w w' := by
  unfold agg_Merge.f at h
  by_cases ho : a0_0 < 1 ∨ 5 < a0_0
  · rw [if_pos ho] at h
    injection h with h
    injection h with h1 h
    injection h with h2 h3
    subst h1 h2 h3
    exact merge_out _ _ _ _ _ _ _ _ _ _ _ _ _ (knows_out ho)
  · rw [if_neg ho] at h
    have hk : a0_0 = 1 ∨ a0_0 = 2 ∨ a0_0 = 3 ∨ a0_0 = 4 ∨ a0_0 = 5 := by omega
    by_cases hn : a1_0 = 0
    · rw [if_pos hn] at h
      by_cases hn2 : a2_0 = 0
      · rw [if_pos hn2] at h
        injection h with h
        injection h with h1 h
        injection h with h2 h3
        subst h1 h2 h3
        rcases hk with rfl | rfl | rfl | rfl | rfl <;> exact merge_zero _ _ _ _ _ _ _ _ _ _ _ _ _ _ _ _ _ (beq_iff_eq.2 hn) (beq_iff_eq.2 hn2) (knows_in (by omega) (by omega) rfl) rfl rfl rfl rfl
      · rw [if_neg hn2] at h
        unfold mfin at h
        split at h
        · injection h with h
          injection h with h1 h
          injection h with h2 h3
          subst h1 h2 h3
          rcases hk with rfl | rfl | rfl | rfl | rfl <;> exact merge_right _ _ _ _ _ _ _ _ _ _ _ _ _ _ _ _ _ (beq_iff_eq.2 hn) (beq_eq_false_iff_ne.2 hn2) _ hr2_2 (by omega) (knows_in (by omega) (by omega) rfl) rfl rfl rfl rfl
        · cases h
    · rw [if_neg hn] at h
      by_cases hn2 : a2_0 = 0
      · rw [if_pos hn2] at h
        unfold mfin at h
        split at h
        · injection h with h
          injection h with h1 h
          injection h with h2 h3
          subst h1 h2 h3
          rcases hk with rfl | rfl | rfl | rfl | rfl <;> exact merge_left _ _ _ _ _ _ _ _ _ _ _ _ _ _ _ _ _ (beq_eq_false_iff_ne.2 hn) (beq_iff_eq.2 hn2) _ hr1_2 (by omega) (knows_in (by omega) (by omega) rfl) rfl rfl rfl rfl
        · cases h
      · rw [if_neg hn2] at h
        unfold mfin at h
        split at h
        · rename_i hl
          rw [List.length_append] at hl
          injection h with h
          injection h with h1 h
          injection h with h2 h3
          subst h1 h2 h3
          rcases hk with rfl | rfl | rfl | rfl | rfl
          · exact merge_nil _ _ _ _ _ _ _ _ _ _ _ _ _ _ _ _ _ (beq_eq_false_iff_ne.2 hn) (beq_eq_false_iff_ne.2 hn2) _ _ hr1_2 hr2_2 hl hc1_2 hc2_2 rfl (knows_in (by omega) (by omega) rfl) rfl rfl rfl rfl
          · exact merge_fn _ _ _ _ _ _ _ _ _ _ _ _ _ _ _ _ _ (beq_eq_false_iff_ne.2 hn) (beq_eq_false_iff_ne.2 hn2) _ _ hr1_2 hr2_2 hl hc1_2 hc2_2 _ rfl _ Try.func50 (by kernel_rfl) (by kernel_rfl) _ ⟨fun u => mer_sum _ _ u⟩ (knows_in (by omega) (by omega) rfl) rfl rfl rfl rfl
          · exact merge_fn _ _ _ _ _ _ _ _ _ _ _ _ _ _ _ _ _ (beq_eq_false_iff_ne.2 hn) (beq_eq_false_iff_ne.2 hn2) _ _ hr1_2 hr2_2 hl hc1_2 hc2_2 _ rfl _ Try.func52 (by kernel_rfl) (by kernel_rfl) _ ⟨fun u => mer_min _ _ u⟩ (knows_in (by omega) (by omega) rfl) rfl rfl rfl rfl
          · exact merge_fn _ _ _ _ _ _ _ _ _ _ _ _ _ _ _ _ _ (beq_eq_false_iff_ne.2 hn) (beq_eq_false_iff_ne.2 hn2) _ _ hr1_2 hr2_2 hl hc1_2 hc2_2 _ rfl _ Try.func53 (by kernel_rfl) (by kernel_rfl) _ ⟨fun u => mer_max _ _ u⟩ (knows_in (by omega) (by omega) rfl) rfl rfl rfl rfl
          · exact merge_nil _ _ _ _ _ _ _ _ _ _ _ _ _ _ _ _ _ (beq_eq_false_iff_ne.2 hn) (beq_eq_false_iff_ne.2 hn2) _ _ hr1_2 hr2_2 hl hc1_2 hc2_2 rfl (knows_in (by omega) (by omega) rfl) rfl rfl rfl rfl
        · cases h
end Go.Proofs.Ytmjhgeinhhhodaa.P
end

section
namespace Go.Proofs.Ytmjhgeinhhhodaa.P
set_option linter.unusedVariables false
set_option linter.unusedSimpArgs false
open Go.RowKit Go.Proofs.YtmjhgeinhhhodaaW.PrintWords Go.Proofs.YtmjhgeinhhhodaaW.PrintLast Go.Proofs.YtmjhgeinhhhodaaW.PrintMore Go.Proofs.Ytmjhgeinhhhodaa.Lib
theorem C_none (w : World) (A : Option Addr) : Kd.C Kd.string w A ([] : List ByteArray).length [] := ⟨rfl, by simp, fun h => absurd h (by simp)⟩
set_option maxRecDepth 100000 in
set_option maxHeartbeats 400000 in
theorem add_out (k j n1 v1 tm n : Int) (A1 A2 A3 : Option Addr) (l1 l2 : List ByteArray) (l3 : List Int) (c1 c2 c3 : Nat) (w : World) (ka kb kc kd : Value) (HC : Knows k j #[ka, kb, kc, kd] false)
    (h1 : ka.oneCell' = true) (h2 : kb.oneCell' = true) (h3 : kc.oneCell' = true) (h4 : kd.oneCell' = true) (hr1 : Kd.C Kd.string w A1 l1.length l1) (hc1 : l1.length ≤ c1) (r1 r2 : Int) (r3 : List ByteArray) (HM : agg_Merge.f k j n1 v1 l1 0 0 [] = some (r1, r2, r3)) :
    Calls Try.prog 19 #[.agg #[.int .i64 k, .int .i64 j], .agg #[.int .u64 n1, .int .i64 v1, .slice A1 l1.length c1], .agg #[.int .i64 tm, .slice A2 l2.length c2, .slice A3 l3.length c3], .int .u64 n] w (Merged w r1 r2 r3) := by
  have sa := store_fact h1
  have sb := store_fact h2
  have sc := store_fact h3
  have sd := store_fact h4
  have HR1 := Aside0.mk hr1
  have HC1 := Aside0.mk hc1
  clear h1 h2 h3 h4 hr1 hc1
  have hM := Aside0.mk HM
  clear HM
  go_enter Try.func19, Try.ntmps19
  go_wp2_with (first
    | ((with_reducible refine gate_dst (N := 4) rfl ?_); refine box_event ?hg (N := 4) ?hd (cs := #[.int .i64 k, .int .i64 j]) (t := 23) ?hr ?_; (case hd => rfl); (case hg => rfl); (case hr => first | (go_simp; done) | (go_simp; rfl)); intro g1 hg w1 hbox hb; have GE1 := Aside0.mk (Nat.le_of_eq hg.symm); have BK1 := Aside0.mk hbox; have HX1 := Aside0.mk hb; clear hg hbox hb)
    | ((with_reducible refine gate_dst (N := 5) rfl ?_); refine box_event ?hg (N := 5) ?hd (cs := #[.int .u64 n1, .int .i64 v1, .slice A1 l1.length c1]) (t := 33) ?hr ?_; (case hd => rfl); (case hg => rfl); (case hr => first | (go_simp; done) | (go_simp; rfl)); intro g2 hg w2 hbox hb; have GE2 := Aside0.mk (Nat.le_of_eq hg.symm); have BK2 := Aside0.mk hbox; have HX2 := Aside0.mk hb; clear hg hbox hb)
    | (((with_reducible refine gate_dst (N := 6) rfl ?_); refine box_event ?hg (N := 6) ?hd (cs := #[.int .i64 tm, .slice A2 l2.length c2, .slice A3 l3.length c3]) (t := 42) ?hr ?_; (case hd => rfl); (case hg => rfl); (case hr => first | (go_simp; done) | (go_simp; rfl)); intro g3 hg w3 hbox hb; have GE3 := Aside0.mk (Nat.le_of_eq hg.symm); have BK3 := Aside0.mk hbox; have HX3 := Aside0.mk hb; clear hg hbox hb); have BK1b := Aside0.mk (blk_below (blk_below BK1.out HX2.out) HX3.out); have BK2b := Aside0.mk (blk_below BK2.out HX3.out); have HB3 := Aside0.mk (below_then (below_then HX1.out HX1.out.size HX2.out) (Nat.le_trans HX1.out.size HX2.out.size) HX3.out))
    | (((with_reducible refine gate_dst (N := 8) rfl ?_); refine box_event ?hg (N := 8) ?hd (cs := #[.int .u64 0, .int .i64 0, .slice none 0 0]) (t := 33) ?hr ?_; (case hd => rfl); (case hg => rfl); (case hr => first | (go_simp; done) | (go_simp; rfl)); intro g4 hg w4 hbox hb; have GE4 := Aside0.mk (Nat.le_of_eq hg.symm); have BK4 := Aside0.mk hbox; have HX4 := Aside0.mk hb; clear hg hbox hb); have BK1c := Aside0.mk (blk_below BK1b.out HX4.out); have BK2c := Aside0.mk (blk_below BK2b.out HX4.out); have BK3c := Aside0.mk (blk_below BK3.out HX4.out); have HB4 := Aside0.mk (below_then HB3.out HB3.out.size HX4.out); have HG4 := Aside0.mk (Nat.le_trans HB3.out.size GE4.out); (have hg1_0 : w4.cell? ⟨g1, 0, none⟩ = some (.int .i64 k) := (blk_cell BK1c.out 0).trans rfl; have hfg1_0 := blk_frozen BK1c.out 0; have hg1_1 : w4.cell? ⟨g1, 1, none⟩ = some (.int .i64 j) := (blk_cell BK1c.out 1).trans rfl; have hfg1_1 := blk_frozen BK1c.out 1); have hn14 : g1 ≠ g4 := (by have := blk_lt BK1b.out; have := GE4.out; omega); have hn24 : g2 ≠ g4 := (by have := blk_lt BK2b.out; have := GE4.out; omega); have hn34 : g3 ≠ g4 := (by have := blk_lt BK3.out; have := GE4.out; omega))
    | (go_at_call 27; refine (HC _).mono ?_; rintro e w5 ⟨rfl, hb5⟩; have BK4b := Aside0.mk (blk_below BK4.out hb5); have BK1d := Aside0.mk (blk_below BK1c.out hb5); have BK2d := Aside0.mk (blk_below BK2c.out hb5); have BK3d := Aside0.mk (blk_below BK3c.out hb5); have HB5 := Aside0.mk (below_then HB4.out HB4.out.size hb5); clear hb5; clear hg1_0 hfg1_0 hg1_1 hfg1_1)
    | (((with_reducible refine gate_dst (N := 9) rfl ?_); refine box_event ?hg (N := 9) ?hd (cs := #[.bool false, .nilFunc, .nilFunc, .nilFunc]) (t := 61) ?hr ?_; (case hd => rfl); (case hg => rfl); (case hr => first | (go_simp; done) | (go_simp; rfl)); intro g6 hg w6 hbox hb; have GE6 := Aside0.mk (Nat.le_of_eq hg.symm); have BK6 := Aside0.mk hbox; have HX6 := Aside0.mk hb; clear hg hbox hb); have BK4c := Aside0.mk (blk_below BK4b.out HX6.out); have BK1e := Aside0.mk (blk_below BK1d.out HX6.out); have BK2e := Aside0.mk (blk_below BK2d.out HX6.out); have BK3e := Aside0.mk (blk_below BK3d.out HX6.out); have HB6 := Aside0.mk (below_then HB5.out HB5.out.size HX6.out); have HG6 := Aside0.mk (Nat.le_trans HB5.out.size GE6.out); (have hg6_0 : w6.cell? ⟨g6, 0, none⟩ = some (.bool false) := (blk_cell BK6.out 0).trans rfl; have hfg6_0 := blk_frozen BK6.out 0; have hg6_1 : w6.cell? ⟨g6, 1, none⟩ = some (.nilFunc) := (blk_cell BK6.out 1).trans rfl; have hfg6_1 := blk_frozen BK6.out 1; have hg6_2 : w6.cell? ⟨g6, 2, none⟩ = some (.nilFunc) := (blk_cell BK6.out 2).trans rfl; have hfg6_2 := blk_frozen BK6.out 2; have hg6_3 : w6.cell? ⟨g6, 3, none⟩ = some (.nilFunc) := (blk_cell BK6.out 3).trans rfl; have hfg6_3 := blk_frozen BK6.out 3); (have hg1_0 : w6.cell? ⟨g1, 0, none⟩ = some (.int .i64 k) := (blk_cell BK1e.out 0).trans rfl; have hfg1_0 := blk_frozen BK1e.out 0; have hg1_1 : w6.cell? ⟨g1, 1, none⟩ = some (.int .i64 j) := (blk_cell BK1e.out 1).trans rfl; have hfg1_1 := blk_frozen BK1e.out 1); (have hg2_0 : w6.cell? ⟨g2, 0, none⟩ = some (.int .u64 n1) := (blk_cell BK2e.out 0).trans rfl; have hfg2_0 := blk_frozen BK2e.out 0; have hg2_1 : w6.cell? ⟨g2, 1, none⟩ = some (.int .i64 v1) := (blk_cell BK2e.out 1).trans rfl; have hfg2_1 := blk_frozen BK2e.out 1; have hg2_2 : w6.cell? ⟨g2, 2, none⟩ = some (.slice A1 l1.length c1) := (blk_cell BK2e.out 2).trans rfl; have hfg2_2 := blk_frozen BK2e.out 2); (have hg3_0 : w6.cell? ⟨g3, 0, none⟩ = some (.int .i64 tm) := (blk_cell BK3e.out 0).trans rfl; have hfg3_0 := blk_frozen BK3e.out 0; have hg3_1 : w6.cell? ⟨g3, 1, none⟩ = some (.slice A2 l2.length c2) := (blk_cell BK3e.out 1).trans rfl; have hfg3_1 := blk_frozen BK3e.out 1; have hg3_2 : w6.cell? ⟨g3, 2, none⟩ = some (.slice A3 l3.length c3) := (blk_cell BK3e.out 2).trans rfl; have hfg3_2 := blk_frozen BK3e.out 2); have hn16 : g1 ≠ g6 := (by have := blk_lt BK1d.out; have := GE6.out; omega); have hn46 : g4 ≠ g6 := (by have := blk_lt BK4b.out; have := GE6.out; omega); have hn26 : g2 ≠ g6 := (by have := blk_lt BK2d.out; have := GE6.out; omega); have hn36 : g3 ≠ g6 := (by have := blk_lt BK3d.out; have := GE6.out; omega))
    | fail)
  have HBW := Aside0.mk (show Below w.heap.size w (((((w6.setCell ⟨g6, 0, none⟩ (ka)).setCell ⟨g6, 1, none⟩ (kb)).setCell ⟨g6, 2, none⟩ kc).setCell ⟨g6, 3, none⟩ kd)) from (below_set (below_set (below_set (below_set HB6.out HG6.out) HG6.out) HG6.out) HG6.out))
  have BK1W := Aside0.mk (show (((((w6.setCell ⟨g6, 0, none⟩ (ka)).setCell ⟨g6, 1, none⟩ (kb)).setCell ⟨g6, 2, none⟩ kc).setCell ⟨g6, 3, none⟩ kd)).heap[g1]? = some (.cells #[.int .i64 k, .int .i64 j] 23 (0, 0)) from (blk_far (blk_far (blk_far (blk_far BK1e.out hn16 _) hn16 _) hn16 _) hn16 _))
  have BK2W := Aside0.mk (show (((((w6.setCell ⟨g6, 0, none⟩ (ka)).setCell ⟨g6, 1, none⟩ (kb)).setCell ⟨g6, 2, none⟩ kc).setCell ⟨g6, 3, none⟩ kd)).heap[g2]? = some (.cells #[.int .u64 n1, .int .i64 v1, .slice A1 l1.length c1] 33 (0, 0)) from (blk_far (blk_far (blk_far (blk_far BK2e.out hn26 _) hn26 _) hn26 _) hn26 _))
  have BK3W := Aside0.mk (show (((((w6.setCell ⟨g6, 0, none⟩ (ka)).setCell ⟨g6, 1, none⟩ (kb)).setCell ⟨g6, 2, none⟩ kc).setCell ⟨g6, 3, none⟩ kd)).heap[g3]? = some (.cells #[.int .i64 tm, .slice A2 l2.length c2, .slice A3 l3.length c3] 42 (0, 0)) from (blk_far (blk_far (blk_far (blk_far BK3e.out hn36 _) hn36 _) hn36 _) hn36 _))
  have BK4W := Aside0.mk (show (((((w6.setCell ⟨g6, 0, none⟩ (ka)).setCell ⟨g6, 1, none⟩ (kb)).setCell ⟨g6, 2, none⟩ kc).setCell ⟨g6, 3, none⟩ kd)).heap[g4]? = some (.cells #[.int .u64 0, .int .i64 0, .slice none 0 0] 33 (0, 0)) from (blk_far (blk_far (blk_far (blk_far BK4c.out hn46 _) hn46 _) hn46 _) hn46 _))
  have BK6W := Aside0.mk (show (((((w6.setCell ⟨g6, 0, none⟩ (ka)).setCell ⟨g6, 1, none⟩ (kb)).setCell ⟨g6, 2, none⟩ kc).setCell ⟨g6, 3, none⟩ kd)).heap[g6]? = some (.cells #[(ka), (kb), kc, kd] 61 (0, 0)) from (blk_set (blk_set (blk_set (blk_set BK6.out 0 _) 1 _) 2 _) 3 _))
  have HSz := Aside0.mk (show (((((w6.setCell ⟨g6, 0, none⟩ (ka)).setCell ⟨g6, 1, none⟩ (kb)).setCell ⟨g6, 2, none⟩ kc).setCell ⟨g6, 3, none⟩ kd)).heap.size = w6.heap.size by simp)
  clear hg6_0 hfg6_0 hg6_1 hfg6_1 hg6_2 hfg6_2 hg6_3 hfg6_3 hg1_0 hfg1_0 hg1_1 hfg1_1 hg2_0 hfg2_0 hg2_1 hfg2_1 hg2_2 hfg2_2 hg3_0 hfg3_0 hg3_1 hfg3_1 hg3_2 hfg3_2
  generalize ((((w6.setCell ⟨g6, 0, none⟩ (ka)).setCell ⟨g6, 1, none⟩ (kb)).setCell ⟨g6, 2, none⟩ kc).setCell ⟨g6, 3, none⟩ kd) = wW at *
  (try rw [← HSz.out])
  refine (agg_Merge.calls _ _ _ _ _ _ _ _ _ none 0 [] r1 r2 r3 _ (Kd.C_below HR1.out HBW.out) HC1.out (C_none _ _) (Nat.le_refl _) hM.out).mono ?_
  rintro e w9 ⟨v9, rfl, ho9, hb9⟩
  obtain ⟨A9, c9, rfl, -, -⟩ := Kd.R_reads ho9
  have BK4m := Aside0.mk (blk_below BK4W.out hb9)
  have HB9 := Aside0.mk (below_then HBW.out HBW.out.size hb9)
  have HO9 := Aside0.mk ho9
  have HSb := Aside0.mk HBW.out.size
  clear ho9 hb9
  (have hg4_0 : w9.cell? ⟨g4, 0, none⟩ = some (.int .u64 0) := (blk_cell BK4m.out 0).trans rfl; have hfg4_0 := blk_frozen BK4m.out 0; have hg4_1 : w9.cell? ⟨g4, 1, none⟩ = some (.int .i64 0) := (blk_cell BK4m.out 1).trans rfl; have hfg4_1 := blk_frozen BK4m.out 1; have hg4_2 : w9.cell? ⟨g4, 2, none⟩ = some (.slice none 0 0) := (blk_cell BK4m.out 2).trans rfl; have hfg4_2 := blk_frozen BK4m.out 2)
  go_wp2_with fail
  have HT := Aside0.mk (show ∀ q, q ∈ 9 :: Kd.string.E → q ≠ 33 by decide)
  have b1 := blk_set BK4m.out 0 (.int .u64 r1)
  have b2 := blk_set b1 1 (.int .i64 r2)
  have b3 := blk_set b2 2 (.slice A9 r3.length c9)
  have q1 := Kd.R_set (Kd.R_set (Kd.R_set HO9.out BK4m.out HT.out 0 (.int .u64 r1)) b1 HT.out 1 (.int .i64 r2)) b2 HT.out 2 (.slice A9 r3.length c9)
  exact bodyPost_ret (results_cell_row rfl _ _ g4 33 #[.int .u64 r1, .int .i64 r2, .slice A9 r3.length c9] (0, 0) _ rfl b3 Try.underlying33 rfl (by kernel_rfl)) rfl ⟨_, rfl, Kd.R_lower q1 HSb.out, below_set (below_set (below_set HB9.out HG4.out) HG4.out) HG4.out⟩
set_option maxRecDepth 100000 in
set_option maxHeartbeats 400000 in
theorem add_none (k j n1 v1 tm n : Int) (A1 A2 A3 : Option Addr) (l1 l2 : List ByteArray) (l3 : List Int) (c1 c2 c3 : Nat) (w : World) (ka kb kc kd : Value) (HC : Knows k j #[ka, kb, kc, kd] true)
    (h1 : ka.oneCell' = true) (h2 : kb.oneCell' = true) (h3 : kc.oneCell' = true) (h4 : kd.oneCell' = true) (hr1 : Kd.C Kd.string w A1 l1.length l1) (hc1 : l1.length ≤ c1) (r1 r2 : Int) (r3 : List ByteArray) (e1 : (n == 0) = true) (HM : agg_Merge.f k j n1 v1 l1 0 0 [] = some (r1, r2, r3)) :
    Calls Try.prog 19 #[.agg #[.int .i64 k, .int .i64 j], .agg #[.int .u64 n1, .int .i64 v1, .slice A1 l1.length c1], .agg #[.int .i64 tm, .slice A2 l2.length c2, .slice A3 l3.length c3], .int .u64 n] w (Merged w r1 r2 r3) := by
  have sa := store_fact h1
  have sb := store_fact h2
  have sc := store_fact h3
  have sd := store_fact h4
  have HR1 := Aside0.mk hr1
  have HC1 := Aside0.mk hc1
  clear h1 h2 h3 h4 hr1 hc1
  have hM := Aside0.mk HM
  clear HM
  go_enter Try.func19, Try.ntmps19
  go_wp2_with (first
    | ((with_reducible refine gate_dst (N := 4) rfl ?_); refine box_event ?hg (N := 4) ?hd (cs := #[.int .i64 k, .int .i64 j]) (t := 23) ?hr ?_; (case hd => rfl); (case hg => rfl); (case hr => first | (go_simp; done) | (go_simp; rfl)); intro g1 hg w1 hbox hb; have GE1 := Aside0.mk (Nat.le_of_eq hg.symm); have BK1 := Aside0.mk hbox; have HX1 := Aside0.mk hb; clear hg hbox hb)
    | ((with_reducible refine gate_dst (N := 5) rfl ?_); refine box_event ?hg (N := 5) ?hd (cs := #[.int .u64 n1, .int .i64 v1, .slice A1 l1.length c1]) (t := 33) ?hr ?_; (case hd => rfl); (case hg => rfl); (case hr => first | (go_simp; done) | (go_simp; rfl)); intro g2 hg w2 hbox hb; have GE2 := Aside0.mk (Nat.le_of_eq hg.symm); have BK2 := Aside0.mk hbox; have HX2 := Aside0.mk hb; clear hg hbox hb)
    | (((with_reducible refine gate_dst (N := 6) rfl ?_); refine box_event ?hg (N := 6) ?hd (cs := #[.int .i64 tm, .slice A2 l2.length c2, .slice A3 l3.length c3]) (t := 42) ?hr ?_; (case hd => rfl); (case hg => rfl); (case hr => first | (go_simp; done) | (go_simp; rfl)); intro g3 hg w3 hbox hb; have GE3 := Aside0.mk (Nat.le_of_eq hg.symm); have BK3 := Aside0.mk hbox; have HX3 := Aside0.mk hb; clear hg hbox hb); have BK1b := Aside0.mk (blk_below (blk_below BK1.out HX2.out) HX3.out); have BK2b := Aside0.mk (blk_below BK2.out HX3.out); have HB3 := Aside0.mk (below_then (below_then HX1.out HX1.out.size HX2.out) (Nat.le_trans HX1.out.size HX2.out.size) HX3.out))
    | (((with_reducible refine gate_dst (N := 8) rfl ?_); refine box_event ?hg (N := 8) ?hd (cs := #[.int .u64 0, .int .i64 0, .slice none 0 0]) (t := 33) ?hr ?_; (case hd => rfl); (case hg => rfl); (case hr => first | (go_simp; done) | (go_simp; rfl)); intro g4 hg w4 hbox hb; have GE4 := Aside0.mk (Nat.le_of_eq hg.symm); have BK4 := Aside0.mk hbox; have HX4 := Aside0.mk hb; clear hg hbox hb); have BK1c := Aside0.mk (blk_below BK1b.out HX4.out); have BK2c := Aside0.mk (blk_below BK2b.out HX4.out); have BK3c := Aside0.mk (blk_below BK3.out HX4.out); have HB4 := Aside0.mk (below_then HB3.out HB3.out.size HX4.out); have HG4 := Aside0.mk (Nat.le_trans HB3.out.size GE4.out); (have hg1_0 : w4.cell? ⟨g1, 0, none⟩ = some (.int .i64 k) := (blk_cell BK1c.out 0).trans rfl; have hfg1_0 := blk_frozen BK1c.out 0; have hg1_1 : w4.cell? ⟨g1, 1, none⟩ = some (.int .i64 j) := (blk_cell BK1c.out 1).trans rfl; have hfg1_1 := blk_frozen BK1c.out 1); have hn14 : g1 ≠ g4 := (by have := blk_lt BK1b.out; have := GE4.out; omega); have hn24 : g2 ≠ g4 := (by have := blk_lt BK2b.out; have := GE4.out; omega); have hn34 : g3 ≠ g4 := (by have := blk_lt BK3.out; have := GE4.out; omega))
    | (go_at_call 27; refine (HC _).mono ?_; rintro e w5 ⟨rfl, hb5⟩; have BK4b := Aside0.mk (blk_below BK4.out hb5); have BK1d := Aside0.mk (blk_below BK1c.out hb5); have BK2d := Aside0.mk (blk_below BK2c.out hb5); have BK3d := Aside0.mk (blk_below BK3c.out hb5); have HB5 := Aside0.mk (below_then HB4.out HB4.out.size hb5); clear hb5; clear hg1_0 hfg1_0 hg1_1 hfg1_1)
    | (((with_reducible refine gate_dst (N := 9) rfl ?_); refine box_event ?hg (N := 9) ?hd (cs := #[.bool false, .nilFunc, .nilFunc, .nilFunc]) (t := 61) ?hr ?_; (case hd => rfl); (case hg => rfl); (case hr => first | (go_simp; done) | (go_simp; rfl)); intro g6 hg w6 hbox hb; have GE6 := Aside0.mk (Nat.le_of_eq hg.symm); have BK6 := Aside0.mk hbox; have HX6 := Aside0.mk hb; clear hg hbox hb); have BK4c := Aside0.mk (blk_below BK4b.out HX6.out); have BK1e := Aside0.mk (blk_below BK1d.out HX6.out); have BK2e := Aside0.mk (blk_below BK2d.out HX6.out); have BK3e := Aside0.mk (blk_below BK3d.out HX6.out); have HB6 := Aside0.mk (below_then HB5.out HB5.out.size HX6.out); have HG6 := Aside0.mk (Nat.le_trans HB5.out.size GE6.out); (have hg6_0 : w6.cell? ⟨g6, 0, none⟩ = some (.bool false) := (blk_cell BK6.out 0).trans rfl; have hfg6_0 := blk_frozen BK6.out 0; have hg6_1 : w6.cell? ⟨g6, 1, none⟩ = some (.nilFunc) := (blk_cell BK6.out 1).trans rfl; have hfg6_1 := blk_frozen BK6.out 1; have hg6_2 : w6.cell? ⟨g6, 2, none⟩ = some (.nilFunc) := (blk_cell BK6.out 2).trans rfl; have hfg6_2 := blk_frozen BK6.out 2; have hg6_3 : w6.cell? ⟨g6, 3, none⟩ = some (.nilFunc) := (blk_cell BK6.out 3).trans rfl; have hfg6_3 := blk_frozen BK6.out 3); (have hg1_0 : w6.cell? ⟨g1, 0, none⟩ = some (.int .i64 k) := (blk_cell BK1e.out 0).trans rfl; have hfg1_0 := blk_frozen BK1e.out 0; have hg1_1 : w6.cell? ⟨g1, 1, none⟩ = some (.int .i64 j) := (blk_cell BK1e.out 1).trans rfl; have hfg1_1 := blk_frozen BK1e.out 1); (have hg2_0 : w6.cell? ⟨g2, 0, none⟩ = some (.int .u64 n1) := (blk_cell BK2e.out 0).trans rfl; have hfg2_0 := blk_frozen BK2e.out 0; have hg2_1 : w6.cell? ⟨g2, 1, none⟩ = some (.int .i64 v1) := (blk_cell BK2e.out 1).trans rfl; have hfg2_1 := blk_frozen BK2e.out 1; have hg2_2 : w6.cell? ⟨g2, 2, none⟩ = some (.slice A1 l1.length c1) := (blk_cell BK2e.out 2).trans rfl; have hfg2_2 := blk_frozen BK2e.out 2); (have hg3_0 : w6.cell? ⟨g3, 0, none⟩ = some (.int .i64 tm) := (blk_cell BK3e.out 0).trans rfl; have hfg3_0 := blk_frozen BK3e.out 0; have hg3_1 : w6.cell? ⟨g3, 1, none⟩ = some (.slice A2 l2.length c2) := (blk_cell BK3e.out 1).trans rfl; have hfg3_1 := blk_frozen BK3e.out 1; have hg3_2 : w6.cell? ⟨g3, 2, none⟩ = some (.slice A3 l3.length c3) := (blk_cell BK3e.out 2).trans rfl; have hfg3_2 := blk_frozen BK3e.out 2); have hn16 : g1 ≠ g6 := (by have := blk_lt BK1d.out; have := GE6.out; omega); have hn46 : g4 ≠ g6 := (by have := blk_lt BK4b.out; have := GE6.out; omega); have hn26 : g2 ≠ g6 := (by have := blk_lt BK2d.out; have := GE6.out; omega); have hn36 : g3 ≠ g6 := (by have := blk_lt BK3d.out; have := GE6.out; omega))
    | fail)
  have HBW := Aside0.mk (show Below w.heap.size w (((((w6.setCell ⟨g6, 0, none⟩ (ka)).setCell ⟨g6, 1, none⟩ (kb)).setCell ⟨g6, 2, none⟩ kc).setCell ⟨g6, 3, none⟩ kd)) from (below_set (below_set (below_set (below_set HB6.out HG6.out) HG6.out) HG6.out) HG6.out))
  have BK1W := Aside0.mk (show (((((w6.setCell ⟨g6, 0, none⟩ (ka)).setCell ⟨g6, 1, none⟩ (kb)).setCell ⟨g6, 2, none⟩ kc).setCell ⟨g6, 3, none⟩ kd)).heap[g1]? = some (.cells #[.int .i64 k, .int .i64 j] 23 (0, 0)) from (blk_far (blk_far (blk_far (blk_far BK1e.out hn16 _) hn16 _) hn16 _) hn16 _))
  have BK2W := Aside0.mk (show (((((w6.setCell ⟨g6, 0, none⟩ (ka)).setCell ⟨g6, 1, none⟩ (kb)).setCell ⟨g6, 2, none⟩ kc).setCell ⟨g6, 3, none⟩ kd)).heap[g2]? = some (.cells #[.int .u64 n1, .int .i64 v1, .slice A1 l1.length c1] 33 (0, 0)) from (blk_far (blk_far (blk_far (blk_far BK2e.out hn26 _) hn26 _) hn26 _) hn26 _))
  have BK3W := Aside0.mk (show (((((w6.setCell ⟨g6, 0, none⟩ (ka)).setCell ⟨g6, 1, none⟩ (kb)).setCell ⟨g6, 2, none⟩ kc).setCell ⟨g6, 3, none⟩ kd)).heap[g3]? = some (.cells #[.int .i64 tm, .slice A2 l2.length c2, .slice A3 l3.length c3] 42 (0, 0)) from (blk_far (blk_far (blk_far (blk_far BK3e.out hn36 _) hn36 _) hn36 _) hn36 _))
  have BK4W := Aside0.mk (show (((((w6.setCell ⟨g6, 0, none⟩ (ka)).setCell ⟨g6, 1, none⟩ (kb)).setCell ⟨g6, 2, none⟩ kc).setCell ⟨g6, 3, none⟩ kd)).heap[g4]? = some (.cells #[.int .u64 0, .int .i64 0, .slice none 0 0] 33 (0, 0)) from (blk_far (blk_far (blk_far (blk_far BK4c.out hn46 _) hn46 _) hn46 _) hn46 _))
  have BK6W := Aside0.mk (show (((((w6.setCell ⟨g6, 0, none⟩ (ka)).setCell ⟨g6, 1, none⟩ (kb)).setCell ⟨g6, 2, none⟩ kc).setCell ⟨g6, 3, none⟩ kd)).heap[g6]? = some (.cells #[(ka), (kb), kc, kd] 61 (0, 0)) from (blk_set (blk_set (blk_set (blk_set BK6.out 0 _) 1 _) 2 _) 3 _))
  have HSz := Aside0.mk (show (((((w6.setCell ⟨g6, 0, none⟩ (ka)).setCell ⟨g6, 1, none⟩ (kb)).setCell ⟨g6, 2, none⟩ kc).setCell ⟨g6, 3, none⟩ kd)).heap.size = w6.heap.size by simp)
  clear hg6_0 hfg6_0 hg6_1 hfg6_1 hg6_2 hfg6_2 hg6_3 hfg6_3 hg1_0 hfg1_0 hg1_1 hfg1_1 hg2_0 hfg2_0 hg2_1 hfg2_1 hg2_2 hfg2_2 hg3_0 hfg3_0 hg3_1 hfg3_1 hg3_2 hfg3_2
  generalize ((((w6.setCell ⟨g6, 0, none⟩ (ka)).setCell ⟨g6, 1, none⟩ (kb)).setCell ⟨g6, 2, none⟩ kc).setCell ⟨g6, 3, none⟩ kd) = wW at *
  (try rw [← HSz.out])
  refine (agg_Merge.calls _ _ _ _ _ _ _ _ _ none 0 [] r1 r2 r3 _ (Kd.C_below HR1.out HBW.out) HC1.out (C_none _ _) (Nat.le_refl _) hM.out).mono ?_
  rintro e w9 ⟨v9, rfl, ho9, hb9⟩
  obtain ⟨A9, c9, rfl, -, -⟩ := Kd.R_reads ho9
  have BK4m := Aside0.mk (blk_below BK4W.out hb9)
  have HB9 := Aside0.mk (below_then HBW.out HBW.out.size hb9)
  have HO9 := Aside0.mk ho9
  have HSb := Aside0.mk HBW.out.size
  clear ho9 hb9
  (have hg4_0 : w9.cell? ⟨g4, 0, none⟩ = some (.int .u64 0) := (blk_cell BK4m.out 0).trans rfl; have hfg4_0 := blk_frozen BK4m.out 0; have hg4_1 : w9.cell? ⟨g4, 1, none⟩ = some (.int .i64 0) := (blk_cell BK4m.out 1).trans rfl; have hfg4_1 := blk_frozen BK4m.out 1; have hg4_2 : w9.cell? ⟨g4, 2, none⟩ = some (.slice none 0 0) := (blk_cell BK4m.out 2).trans rfl; have hfg4_2 := blk_frozen BK4m.out 2)
  go_wp2_with fail
  have HT := Aside0.mk (show ∀ q, q ∈ 9 :: Kd.string.E → q ≠ 33 by decide)
  have b1 := blk_set BK4m.out 0 (.int .u64 r1)
  have b2 := blk_set b1 1 (.int .i64 r2)
  have b3 := blk_set b2 2 (.slice A9 r3.length c9)
  have q1 := Kd.R_set (Kd.R_set (Kd.R_set HO9.out BK4m.out HT.out 0 (.int .u64 r1)) b1 HT.out 1 (.int .i64 r2)) b2 HT.out 2 (.slice A9 r3.length c9)
  exact bodyPost_ret (results_cell_row rfl _ _ g4 33 #[.int .u64 r1, .int .i64 r2, .slice A9 r3.length c9] (0, 0) _ rfl b3 Try.underlying33 rfl (by kernel_rfl)) rfl ⟨_, rfl, Kd.R_lower q1 HSb.out, below_set (below_set (below_set HB9.out HG4.out) HG4.out) HG4.out⟩
theorem nil_neq2 (u : World) : (binOp .neq 57 .nilFunc .nilFunc).run Try.prog u = .ok (.bool false) u := by kernel_rfl
theorem fn_neq2 (m : Nat) (u : World) : (binOp .neq 57 (.func (.func m) #[] #[]) .nilFunc).run Try.prog u = .ok (.bool true) u := by kernel_rfl
set_option maxRecDepth 100000 in
set_option maxHeartbeats 3200000 in
theorem add_count (k j n1 v1 tm n : Int) (A1 A2 A3 : Option Addr) (l1 l2 : List ByteArray) (l3 : List Int) (c1 c2 c3 : Nat) (w : World) (ka kb kc kd : Value) (HC : Knows k j #[ka, kb, kc, kd] true)
    (h1 : ka.oneCell' = true) (h2 : kb.oneCell' = true) (h3 : kc.oneCell' = true) (h4 : kd.oneCell' = true) (hr1 : Kd.C Kd.string w A1 l1.length l1) (hc1 : l1.length ≤ c1) (r1 r2 : Int) (r3 : List ByteArray) (e1 : (n == 0) = false) (hka : ka = .bool false) (hkb : kb = .nilFunc) (HM : agg_Merge.f k j n1 v1 l1 n 0 [] = some (r1, r2, r3)) :
    Calls Try.prog 19 #[.agg #[.int .i64 k, .int .i64 j], .agg #[.int .u64 n1, .int .i64 v1, .slice A1 l1.length c1], .agg #[.int .i64 tm, .slice A2 l2.length c2, .slice A3 l3.length c3], .int .u64 n] w (Merged w r1 r2 r3) := by
  have sa := store_fact h1
  have sb := store_fact h2
  have sc := store_fact h3
  have sd := store_fact h4
  have HR1 := Aside0.mk hr1
  have HC1 := Aside0.mk hc1
  clear h1 h2 h3 h4 hr1 hc1
  subst hka
  subst hkb
  have hcmp := nil_neq2
  have hM := Aside0.mk HM
  clear HM
  go_enter Try.func19, Try.ntmps19
  go_wp2_with (first
    | ((with_reducible refine gate_dst (N := 4) rfl ?_); refine box_event ?hg (N := 4) ?hd (cs := #[.int .i64 k, .int .i64 j]) (t := 23) ?hr ?_; (case hd => rfl); (case hg => rfl); (case hr => first | (go_simp; done) | (go_simp; rfl)); intro g1 hg w1 hbox hb; have GE1 := Aside0.mk (Nat.le_of_eq hg.symm); have BK1 := Aside0.mk hbox; have HX1 := Aside0.mk hb; clear hg hbox hb)
    | ((with_reducible refine gate_dst (N := 5) rfl ?_); refine box_event ?hg (N := 5) ?hd (cs := #[.int .u64 n1, .int .i64 v1, .slice A1 l1.length c1]) (t := 33) ?hr ?_; (case hd => rfl); (case hg => rfl); (case hr => first | (go_simp; done) | (go_simp; rfl)); intro g2 hg w2 hbox hb; have GE2 := Aside0.mk (Nat.le_of_eq hg.symm); have BK2 := Aside0.mk hbox; have HX2 := Aside0.mk hb; clear hg hbox hb)
    | (((with_reducible refine gate_dst (N := 6) rfl ?_); refine box_event ?hg (N := 6) ?hd (cs := #[.int .i64 tm, .slice A2 l2.length c2, .slice A3 l3.length c3]) (t := 42) ?hr ?_; (case hd => rfl); (case hg => rfl); (case hr => first | (go_simp; done) | (go_simp; rfl)); intro g3 hg w3 hbox hb; have GE3 := Aside0.mk (Nat.le_of_eq hg.symm); have BK3 := Aside0.mk hbox; have HX3 := Aside0.mk hb; clear hg hbox hb); have BK1b := Aside0.mk (blk_below (blk_below BK1.out HX2.out) HX3.out); have BK2b := Aside0.mk (blk_below BK2.out HX3.out); have HB3 := Aside0.mk (below_then (below_then HX1.out HX1.out.size HX2.out) (Nat.le_trans HX1.out.size HX2.out.size) HX3.out))
    | (((with_reducible refine gate_dst (N := 8) rfl ?_); refine box_event ?hg (N := 8) ?hd (cs := #[.int .u64 0, .int .i64 0, .slice none 0 0]) (t := 33) ?hr ?_; (case hd => rfl); (case hg => rfl); (case hr => first | (go_simp; done) | (go_simp; rfl)); intro g4 hg w4 hbox hb; have GE4 := Aside0.mk (Nat.le_of_eq hg.symm); have BK4 := Aside0.mk hbox; have HX4 := Aside0.mk hb; clear hg hbox hb); have BK1c := Aside0.mk (blk_below BK1b.out HX4.out); have BK2c := Aside0.mk (blk_below BK2b.out HX4.out); have BK3c := Aside0.mk (blk_below BK3.out HX4.out); have HB4 := Aside0.mk (below_then HB3.out HB3.out.size HX4.out); have HG4 := Aside0.mk (Nat.le_trans HB3.out.size GE4.out); (have hg1_0 : w4.cell? ⟨g1, 0, none⟩ = some (.int .i64 k) := (blk_cell BK1c.out 0).trans rfl; have hfg1_0 := blk_frozen BK1c.out 0; have hg1_1 : w4.cell? ⟨g1, 1, none⟩ = some (.int .i64 j) := (blk_cell BK1c.out 1).trans rfl; have hfg1_1 := blk_frozen BK1c.out 1); have hn14 : g1 ≠ g4 := (by have := blk_lt BK1b.out; have := GE4.out; omega); have hn24 : g2 ≠ g4 := (by have := blk_lt BK2b.out; have := GE4.out; omega); have hn34 : g3 ≠ g4 := (by have := blk_lt BK3.out; have := GE4.out; omega))
    | (go_at_call 27; refine (HC _).mono ?_; rintro e w5 ⟨rfl, hb5⟩; have BK4b := Aside0.mk (blk_below BK4.out hb5); have BK1d := Aside0.mk (blk_below BK1c.out hb5); have BK2d := Aside0.mk (blk_below BK2c.out hb5); have BK3d := Aside0.mk (blk_below BK3c.out hb5); have HB5 := Aside0.mk (below_then HB4.out HB4.out.size hb5); clear hb5; clear hg1_0 hfg1_0 hg1_1 hfg1_1)
    | (((with_reducible refine gate_dst (N := 9) rfl ?_); refine box_event ?hg (N := 9) ?hd (cs := #[.bool false, .nilFunc, .nilFunc, .nilFunc]) (t := 61) ?hr ?_; (case hd => rfl); (case hg => rfl); (case hr => first | (go_simp; done) | (go_simp; rfl)); intro g6 hg w6 hbox hb; have GE6 := Aside0.mk (Nat.le_of_eq hg.symm); have BK6 := Aside0.mk hbox; have HX6 := Aside0.mk hb; clear hg hbox hb); have BK4c := Aside0.mk (blk_below BK4b.out HX6.out); have BK1e := Aside0.mk (blk_below BK1d.out HX6.out); have BK2e := Aside0.mk (blk_below BK2d.out HX6.out); have BK3e := Aside0.mk (blk_below BK3d.out HX6.out); have HB6 := Aside0.mk (below_then HB5.out HB5.out.size HX6.out); have HG6 := Aside0.mk (Nat.le_trans HB5.out.size GE6.out); (have hg6_0 : w6.cell? ⟨g6, 0, none⟩ = some (.bool false) := (blk_cell BK6.out 0).trans rfl; have hfg6_0 := blk_frozen BK6.out 0; have hg6_1 : w6.cell? ⟨g6, 1, none⟩ = some (.nilFunc) := (blk_cell BK6.out 1).trans rfl; have hfg6_1 := blk_frozen BK6.out 1; have hg6_2 : w6.cell? ⟨g6, 2, none⟩ = some (.nilFunc) := (blk_cell BK6.out 2).trans rfl; have hfg6_2 := blk_frozen BK6.out 2; have hg6_3 : w6.cell? ⟨g6, 3, none⟩ = some (.nilFunc) := (blk_cell BK6.out 3).trans rfl; have hfg6_3 := blk_frozen BK6.out 3); (have hg1_0 : w6.cell? ⟨g1, 0, none⟩ = some (.int .i64 k) := (blk_cell BK1e.out 0).trans rfl; have hfg1_0 := blk_frozen BK1e.out 0; have hg1_1 : w6.cell? ⟨g1, 1, none⟩ = some (.int .i64 j) := (blk_cell BK1e.out 1).trans rfl; have hfg1_1 := blk_frozen BK1e.out 1); (have hg2_0 : w6.cell? ⟨g2, 0, none⟩ = some (.int .u64 n1) := (blk_cell BK2e.out 0).trans rfl; have hfg2_0 := blk_frozen BK2e.out 0; have hg2_1 : w6.cell? ⟨g2, 1, none⟩ = some (.int .i64 v1) := (blk_cell BK2e.out 1).trans rfl; have hfg2_1 := blk_frozen BK2e.out 1; have hg2_2 : w6.cell? ⟨g2, 2, none⟩ = some (.slice A1 l1.length c1) := (blk_cell BK2e.out 2).trans rfl; have hfg2_2 := blk_frozen BK2e.out 2); (have hg3_0 : w6.cell? ⟨g3, 0, none⟩ = some (.int .i64 tm) := (blk_cell BK3e.out 0).trans rfl; have hfg3_0 := blk_frozen BK3e.out 0; have hg3_1 : w6.cell? ⟨g3, 1, none⟩ = some (.slice A2 l2.length c2) := (blk_cell BK3e.out 1).trans rfl; have hfg3_1 := blk_frozen BK3e.out 1; have hg3_2 : w6.cell? ⟨g3, 2, none⟩ = some (.slice A3 l3.length c3) := (blk_cell BK3e.out 2).trans rfl; have hfg3_2 := blk_frozen BK3e.out 2); have hn16 : g1 ≠ g6 := (by have := blk_lt BK1d.out; have := GE6.out; omega); have hn46 : g4 ≠ g6 := (by have := blk_lt BK4b.out; have := GE6.out; omega); have hn26 : g2 ≠ g6 := (by have := blk_lt BK2d.out; have := GE6.out; omega); have hn36 : g3 ≠ g6 := (by have := blk_lt BK3d.out; have := GE6.out; omega))
    | (((with_reducible refine gate_dst (N := 11) rfl ?_); refine box_event ?hg (N := 11) ?hd (cs := #[.int .u64 0, .int .i64 0, .slice none 0 0]) (t := 33) ?hr ?_; (case hd => rfl); (case hg => rfl); (case hr => first | (go_simp; done) | (go_simp; rfl)); intro g8 hg w8 hbox hb; have GE8 := Aside0.mk (Nat.le_of_eq hg.symm); have BK8 := Aside0.mk hbox; have HX8 := Aside0.mk hb; clear hg hbox hb); have hsz8 : w6.heap.size ≤ g8 := (by have := GE8.out; simpa using this); have HB8 := Aside0.mk (below_then (below_set (below_set (below_set (below_set HB6.out HG6.out) HG6.out) HG6.out) HG6.out) (by simp; exact HB6.out.size) HX8.out); have BK1f := Aside0.mk (blk_below (blk_far (blk_far (blk_far (blk_far BK1e.out hn16 _) hn16 _) hn16 _) hn16 _) HX8.out); have hn18 : g1 ≠ g8 := (by have := blk_lt BK1e.out; omega); have BK2f := Aside0.mk (blk_below (blk_far (blk_far (blk_far (blk_far BK2e.out hn26 _) hn26 _) hn26 _) hn26 _) HX8.out); have hn28 : g2 ≠ g8 := (by have := blk_lt BK2e.out; omega); have BK3f := Aside0.mk (blk_below (blk_far (blk_far (blk_far (blk_far BK3e.out hn36 _) hn36 _) hn36 _) hn36 _) HX8.out); have hn38 : g3 ≠ g8 := (by have := blk_lt BK3e.out; omega); have BK4f := Aside0.mk (blk_below (blk_far (blk_far (blk_far (blk_far BK4c.out hn46 _) hn46 _) hn46 _) hn46 _) HX8.out); have hn48 : g4 ≠ g8 := (by have := blk_lt BK4c.out; omega); have BK6f := Aside0.mk (blk_below (blk_set (blk_set (blk_set (blk_set BK6.out 0 _) 1 _) 2 _) 3 _) HX8.out); have hn68 : g6 ≠ g8 := (by have := blk_lt BK6.out; omega); have HG8 := Aside0.mk (Nat.le_trans HB6.out.size hsz8); clear hsz8 hg6_0 hfg6_0 hg6_1 hfg6_1 hg6_2 hfg6_2 hg6_3 hfg6_3 hg1_0 hfg1_0 hg1_1 hfg1_1 hg2_0 hfg2_0 hg2_1 hfg2_1 hg2_2 hfg2_2 hg3_0 hfg3_0 hg3_1 hfg3_1 hg3_2 hfg3_2; (have hg6_0 : w8.cell? ⟨g6, 0, none⟩ = some (.bool false) := (blk_cell BK6f.out 0).trans rfl; have hfg6_0 := blk_frozen BK6f.out 0; have hg6_1 : w8.cell? ⟨g6, 1, none⟩ = some (.nilFunc) := (blk_cell BK6f.out 1).trans rfl; have hfg6_1 := blk_frozen BK6f.out 1; have hg6_2 : w8.cell? ⟨g6, 2, none⟩ = some (kc) := (blk_cell BK6f.out 2).trans rfl; have hfg6_2 := blk_frozen BK6f.out 2; have hg6_3 : w8.cell? ⟨g6, 3, none⟩ = some (kd) := (blk_cell BK6f.out 3).trans rfl; have hfg6_3 := blk_frozen BK6f.out 3); (have hg1_0 : w8.cell? ⟨g1, 0, none⟩ = some (.int .i64 k) := (blk_cell BK1f.out 0).trans rfl; have hfg1_0 := blk_frozen BK1f.out 0; have hg1_1 : w8.cell? ⟨g1, 1, none⟩ = some (.int .i64 j) := (blk_cell BK1f.out 1).trans rfl; have hfg1_1 := blk_frozen BK1f.out 1); (have hg2_0 : w8.cell? ⟨g2, 0, none⟩ = some (.int .u64 n1) := (blk_cell BK2f.out 0).trans rfl; have hfg2_0 := blk_frozen BK2f.out 0; have hg2_1 : w8.cell? ⟨g2, 1, none⟩ = some (.int .i64 v1) := (blk_cell BK2f.out 1).trans rfl; have hfg2_1 := blk_frozen BK2f.out 1; have hg2_2 : w8.cell? ⟨g2, 2, none⟩ = some (.slice A1 l1.length c1) := (blk_cell BK2f.out 2).trans rfl; have hfg2_2 := blk_frozen BK2f.out 2); (have hg3_0 : w8.cell? ⟨g3, 0, none⟩ = some (.int .i64 tm) := (blk_cell BK3f.out 0).trans rfl; have hfg3_0 := blk_frozen BK3f.out 0; have hg3_1 : w8.cell? ⟨g3, 1, none⟩ = some (.slice A2 l2.length c2) := (blk_cell BK3f.out 1).trans rfl; have hfg3_1 := blk_frozen BK3f.out 1; have hg3_2 : w8.cell? ⟨g3, 2, none⟩ = some (.slice A3 l3.length c3) := (blk_cell BK3f.out 2).trans rfl; have hfg3_2 := blk_frozen BK3f.out 2); (have hg8_0 : w8.cell? ⟨g8, 0, none⟩ = some (.int .u64 0) := (blk_cell BK8.out 0).trans rfl; have hfg8_0 := blk_frozen BK8.out 0; have hg8_1 : w8.cell? ⟨g8, 1, none⟩ = some (.int .i64 0) := (blk_cell BK8.out 1).trans rfl; have hfg8_1 := blk_frozen BK8.out 1; have hg8_2 : w8.cell? ⟨g8, 2, none⟩ = some (.slice none 0 0) := (blk_cell BK8.out 2).trans rfl; have hfg8_2 := blk_frozen BK8.out 2))
    | fail)
  have HBq := Aside0.mk (show Below w.heap.size w (((w8.setCell ⟨g8, 0, none⟩ (.int .u64 n)).setCell ⟨g8, 1, none⟩ (.int .i64 0)).setCell ⟨g8, 2, none⟩ (.slice none 0 0)) from below_set (below_set (below_set HB8.out HG8.out) HG8.out) HG8.out)
  have BK4q := Aside0.mk (show (((w8.setCell ⟨g8, 0, none⟩ (.int .u64 n)).setCell ⟨g8, 1, none⟩ (.int .i64 0)).setCell ⟨g8, 2, none⟩ (.slice none 0 0)).heap[g4]? = some (.cells #[.int .u64 0, .int .i64 0, .slice none 0 0] 33 (0, 0)) from blk_far (blk_far (blk_far BK4f.out hn48 _) hn48 _) hn48 _)
  clear hg6_0 hfg6_0 hg6_1 hfg6_1 hg6_2 hfg6_2 hg6_3 hfg6_3 hg1_0 hfg1_0 hg1_1 hfg1_1 hg2_0 hfg2_0 hg2_1 hfg2_1 hg2_2 hfg2_2 hg3_0 hfg3_0 hg3_1 hfg3_1 hg3_2 hfg3_2 hg8_0 hfg8_0 hg8_1 hfg8_1 hg8_2 hfg8_2
  refine (agg_Merge.calls _ _ _ _ _ _ _ _ _ none 0 [] r1 r2 r3 _ (Kd.C_below HR1.out HBq.out) HC1.out (C_none _ _) (Nat.le_refl _) hM.out).mono ?_
  rintro e w9 ⟨v9, rfl, ho9, hb9⟩
  obtain ⟨A9, c9, rfl, -, -⟩ := Kd.R_reads ho9
  have BK4m := Aside0.mk (blk_below BK4q.out hb9)
  have HB9 := Aside0.mk (below_then HBq.out HBq.out.size hb9)
  have HO9 := Aside0.mk ho9
  have HSb := Aside0.mk HBq.out.size
  clear ho9 hb9
  (have hg4_0 : w9.cell? ⟨g4, 0, none⟩ = some (.int .u64 0) := (blk_cell BK4m.out 0).trans rfl; have hfg4_0 := blk_frozen BK4m.out 0; have hg4_1 : w9.cell? ⟨g4, 1, none⟩ = some (.int .i64 0) := (blk_cell BK4m.out 1).trans rfl; have hfg4_1 := blk_frozen BK4m.out 1; have hg4_2 : w9.cell? ⟨g4, 2, none⟩ = some (.slice none 0 0) := (blk_cell BK4m.out 2).trans rfl; have hfg4_2 := blk_frozen BK4m.out 2)
  go_wp2_with fail
  have HT := Aside0.mk (show ∀ q, q ∈ 9 :: Kd.string.E → q ≠ 33 by decide)
  have b1 := blk_set BK4m.out 0 (.int .u64 r1)
  have b2 := blk_set b1 1 (.int .i64 r2)
  have b3 := blk_set b2 2 (.slice A9 r3.length c9)
  have q1 := Kd.R_set (Kd.R_set (Kd.R_set HO9.out BK4m.out HT.out 0 (.int .u64 r1)) b1 HT.out 1 (.int .i64 r2)) b2 HT.out 2 (.slice A9 r3.length c9)
  exact bodyPost_ret (results_cell_row rfl _ _ g4 33 #[.int .u64 r1, .int .i64 r2, .slice A9 r3.length c9] (0, 0) _ rfl b3 Try.underlying33 rfl (by kernel_rfl)) rfl ⟨_, rfl, Kd.R_lower q1 HSb.out, below_set (below_set (below_set HB9.out HG4.out) HG4.out) HG4.out⟩
set_option maxRecDepth 100000 in
set_option maxHeartbeats 3200000 in
theorem add_num (k j n1 v1 tm n : Int) (A1 A2 A3 : Option Addr) (l1 l2 : List ByteArray) (l3 : List Int) (c1 c2 c3 : Nat) (w : World) (ka kb kc kd : Value) (HC : Knows k j #[ka, kb, kc, kd] true)
    (h1 : ka.oneCell' = true) (h2 : kb.oneCell' = true) (h3 : kc.oneCell' = true) (h4 : kd.oneCell' = true) (hr1 : Kd.C Kd.string w A1 l1.length l1) (hc1 : l1.length ≤ c1) (r1 r2 : Int) (r3 : List ByteArray) (e1 : (n == 0) = false) (hka : ka = .bool false) (m : Nat) (hkb : kb = fn m) (hj0 : 0 ≤ j) (hj : j < (l3.length : Int)) (hr3 : Kd.C (Kd.int .i64) w A3 l3.length l3) (f : Func) (hf : Try.prog.funcs[m]? = some f) (hname : (f.name == "runtime.NumGoroutine") = false) (hbody : f.body.isSome = true) (y : Int) (HV : Aside0 (∀ u, Calls Try.prog m #[.int .i64 (rd l3 j), .int .u64 n] u fun e w' => e = .returned (.int .i64 y) ∧ Below u.heap.size u w')) (HM : agg_Merge.f k j n1 v1 l1 n y [] = some (r1, r2, r3)) :
    Calls Try.prog 19 #[.agg #[.int .i64 k, .int .i64 j], .agg #[.int .u64 n1, .int .i64 v1, .slice A1 l1.length c1], .agg #[.int .i64 tm, .slice A2 l2.length c2, .slice A3 l3.length c3], .int .u64 n] w (Merged w r1 r2 r3) := by
  have sa := store_fact h1
  have sb := store_fact h2
  have sc := store_fact h3
  have sd := store_fact h4
  have HR1 := Aside0.mk hr1
  have HC1 := Aside0.mk hc1
  clear h1 h2 h3 h4 hr1 hc1
  subst hka
  subst hkb
  have hcmp := fn_neq2 m
  have HF := Aside0.mk hf
  have HNm := Aside0.mk hname
  have HBd := Aside0.mk hbody
  clear hf hname hbody
  have hM := Aside0.mk HM
  clear HM
  obtain ⟨ad, cc, hA3, hcl, hcK, hcc⟩ := Kd.C_get hr3 (0 : Int) j hj0 hj
  have HE := Aside0.mk (show w.cell? (ad.add j.toNat) = some (.int .i64 (rd l3 j)) from by
    have h1 : cc = [Value.int .i64 (l3.getD j.toNat 0)] := hcK
    subst h1
    have h2 := hcc 0 _ rfl
    have e : (Kd.int .i64).sz = 1 := rfl
    rw [e, Nat.mul_one, Nat.add_zero] at h2
    exact h2)
  have HA3 := Aside0.mk hA3
  clear hcl hcK hcc hr3 hA3
  have HV2 : Aside0 (∀ u, Calls Try.prog m (#[] ++ #[.int .i64 (rd l3 j), .int .u64 n] ++ #[]) u fun e w' => e = .returned (.int .i64 y) ∧ Below u.heap.size u w') := ⟨fun u => by have h := HV.out u; simpa using h⟩
  have d0 : decide (0 ≤ j) = true := decide_eq_true hj0
  have d1 : decide (j < (l3.length : Int)) = true := decide_eq_true hj
  go_enter Try.func19, Try.ntmps19
  go_wp2_with (first
    | ((with_reducible refine gate_dst (N := 4) rfl ?_); refine box_event ?hg (N := 4) ?hd (cs := #[.int .i64 k, .int .i64 j]) (t := 23) ?hr ?_; (case hd => rfl); (case hg => rfl); (case hr => first | (go_simp; done) | (go_simp; rfl)); intro g1 hg w1 hbox hb; have GE1 := Aside0.mk (Nat.le_of_eq hg.symm); have BK1 := Aside0.mk hbox; have HX1 := Aside0.mk hb; clear hg hbox hb)
    | ((with_reducible refine gate_dst (N := 5) rfl ?_); refine box_event ?hg (N := 5) ?hd (cs := #[.int .u64 n1, .int .i64 v1, .slice A1 l1.length c1]) (t := 33) ?hr ?_; (case hd => rfl); (case hg => rfl); (case hr => first | (go_simp; done) | (go_simp; rfl)); intro g2 hg w2 hbox hb; have GE2 := Aside0.mk (Nat.le_of_eq hg.symm); have BK2 := Aside0.mk hbox; have HX2 := Aside0.mk hb; clear hg hbox hb)
    | (((with_reducible refine gate_dst (N := 6) rfl ?_); refine box_event ?hg (N := 6) ?hd (cs := #[.int .i64 tm, .slice A2 l2.length c2, .slice A3 l3.length c3]) (t := 42) ?hr ?_; (case hd => rfl); (case hg => rfl); (case hr => first | (go_simp; done) | (go_simp; rfl)); intro g3 hg w3 hbox hb; have GE3 := Aside0.mk (Nat.le_of_eq hg.symm); have BK3 := Aside0.mk hbox; have HX3 := Aside0.mk hb; clear hg hbox hb); have BK1b := Aside0.mk (blk_below (blk_below BK1.out HX2.out) HX3.out); have BK2b := Aside0.mk (blk_below BK2.out HX3.out); have HB3 := Aside0.mk (below_then (below_then HX1.out HX1.out.size HX2.out) (Nat.le_trans HX1.out.size HX2.out.size) HX3.out))
    | (((with_reducible refine gate_dst (N := 8) rfl ?_); refine box_event ?hg (N := 8) ?hd (cs := #[.int .u64 0, .int .i64 0, .slice none 0 0]) (t := 33) ?hr ?_; (case hd => rfl); (case hg => rfl); (case hr => first | (go_simp; done) | (go_simp; rfl)); intro g4 hg w4 hbox hb; have GE4 := Aside0.mk (Nat.le_of_eq hg.symm); have BK4 := Aside0.mk hbox; have HX4 := Aside0.mk hb; clear hg hbox hb); have BK1c := Aside0.mk (blk_below BK1b.out HX4.out); have BK2c := Aside0.mk (blk_below BK2b.out HX4.out); have BK3c := Aside0.mk (blk_below BK3.out HX4.out); have HB4 := Aside0.mk (below_then HB3.out HB3.out.size HX4.out); have HG4 := Aside0.mk (Nat.le_trans HB3.out.size GE4.out); (have hg1_0 : w4.cell? ⟨g1, 0, none⟩ = some (.int .i64 k) := (blk_cell BK1c.out 0).trans rfl; have hfg1_0 := blk_frozen BK1c.out 0; have hg1_1 : w4.cell? ⟨g1, 1, none⟩ = some (.int .i64 j) := (blk_cell BK1c.out 1).trans rfl; have hfg1_1 := blk_frozen BK1c.out 1); have hn14 : g1 ≠ g4 := (by have := blk_lt BK1b.out; have := GE4.out; omega); have hn24 : g2 ≠ g4 := (by have := blk_lt BK2b.out; have := GE4.out; omega); have hn34 : g3 ≠ g4 := (by have := blk_lt BK3.out; have := GE4.out; omega))
    | (go_at_call 27; refine (HC _).mono ?_; rintro e w5 ⟨rfl, hb5⟩; have BK4b := Aside0.mk (blk_below BK4.out hb5); have BK1d := Aside0.mk (blk_below BK1c.out hb5); have BK2d := Aside0.mk (blk_below BK2c.out hb5); have BK3d := Aside0.mk (blk_below BK3c.out hb5); have HB5 := Aside0.mk (below_then HB4.out HB4.out.size hb5); clear hb5; clear hg1_0 hfg1_0 hg1_1 hfg1_1)
    | (((with_reducible refine gate_dst (N := 9) rfl ?_); refine box_event ?hg (N := 9) ?hd (cs := #[.bool false, .nilFunc, .nilFunc, .nilFunc]) (t := 61) ?hr ?_; (case hd => rfl); (case hg => rfl); (case hr => first | (go_simp; done) | (go_simp; rfl)); intro g6 hg w6 hbox hb; have GE6 := Aside0.mk (Nat.le_of_eq hg.symm); have BK6 := Aside0.mk hbox; have HX6 := Aside0.mk hb; clear hg hbox hb); have BK4c := Aside0.mk (blk_below BK4b.out HX6.out); have BK1e := Aside0.mk (blk_below BK1d.out HX6.out); have BK2e := Aside0.mk (blk_below BK2d.out HX6.out); have BK3e := Aside0.mk (blk_below BK3d.out HX6.out); have HB6 := Aside0.mk (below_then HB5.out HB5.out.size HX6.out); have HG6 := Aside0.mk (Nat.le_trans HB5.out.size GE6.out); (have hg6_0 : w6.cell? ⟨g6, 0, none⟩ = some (.bool false) := (blk_cell BK6.out 0).trans rfl; have hfg6_0 := blk_frozen BK6.out 0; have hg6_1 : w6.cell? ⟨g6, 1, none⟩ = some (.nilFunc) := (blk_cell BK6.out 1).trans rfl; have hfg6_1 := blk_frozen BK6.out 1; have hg6_2 : w6.cell? ⟨g6, 2, none⟩ = some (.nilFunc) := (blk_cell BK6.out 2).trans rfl; have hfg6_2 := blk_frozen BK6.out 2; have hg6_3 : w6.cell? ⟨g6, 3, none⟩ = some (.nilFunc) := (blk_cell BK6.out 3).trans rfl; have hfg6_3 := blk_frozen BK6.out 3); (have hg1_0 : w6.cell? ⟨g1, 0, none⟩ = some (.int .i64 k) := (blk_cell BK1e.out 0).trans rfl; have hfg1_0 := blk_frozen BK1e.out 0; have hg1_1 : w6.cell? ⟨g1, 1, none⟩ = some (.int .i64 j) := (blk_cell BK1e.out 1).trans rfl; have hfg1_1 := blk_frozen BK1e.out 1); (have hg2_0 : w6.cell? ⟨g2, 0, none⟩ = some (.int .u64 n1) := (blk_cell BK2e.out 0).trans rfl; have hfg2_0 := blk_frozen BK2e.out 0; have hg2_1 : w6.cell? ⟨g2, 1, none⟩ = some (.int .i64 v1) := (blk_cell BK2e.out 1).trans rfl; have hfg2_1 := blk_frozen BK2e.out 1; have hg2_2 : w6.cell? ⟨g2, 2, none⟩ = some (.slice A1 l1.length c1) := (blk_cell BK2e.out 2).trans rfl; have hfg2_2 := blk_frozen BK2e.out 2); (have hg3_0 : w6.cell? ⟨g3, 0, none⟩ = some (.int .i64 tm) := (blk_cell BK3e.out 0).trans rfl; have hfg3_0 := blk_frozen BK3e.out 0; have hg3_1 : w6.cell? ⟨g3, 1, none⟩ = some (.slice A2 l2.length c2) := (blk_cell BK3e.out 1).trans rfl; have hfg3_1 := blk_frozen BK3e.out 1; have hg3_2 : w6.cell? ⟨g3, 2, none⟩ = some (.slice A3 l3.length c3) := (blk_cell BK3e.out 2).trans rfl; have hfg3_2 := blk_frozen BK3e.out 2); have hn16 : g1 ≠ g6 := (by have := blk_lt BK1d.out; have := GE6.out; omega); have hn46 : g4 ≠ g6 := (by have := blk_lt BK4b.out; have := GE6.out; omega); have hn26 : g2 ≠ g6 := (by have := blk_lt BK2d.out; have := GE6.out; omega); have hn36 : g3 ≠ g6 := (by have := blk_lt BK3d.out; have := GE6.out; omega))
    | (((with_reducible refine gate_dst (N := 11) rfl ?_); refine box_event ?hg (N := 11) ?hd (cs := #[.int .u64 0, .int .i64 0, .slice none 0 0]) (t := 33) ?hr ?_; (case hd => rfl); (case hg => rfl); (case hr => first | (go_simp; done) | (go_simp; rfl)); intro g8 hg w8 hbox hb; have GE8 := Aside0.mk (Nat.le_of_eq hg.symm); have BK8 := Aside0.mk hbox; have HX8 := Aside0.mk hb; clear hg hbox hb); have hsz8 : w6.heap.size ≤ g8 := (by have := GE8.out; simpa using this); have HB8 := Aside0.mk (below_then (below_set (below_set (below_set (below_set HB6.out HG6.out) HG6.out) HG6.out) HG6.out) (by simp; exact HB6.out.size) HX8.out); have BK1f := Aside0.mk (blk_below (blk_far (blk_far (blk_far (blk_far BK1e.out hn16 _) hn16 _) hn16 _) hn16 _) HX8.out); have hn18 : g1 ≠ g8 := (by have := blk_lt BK1e.out; omega); have BK2f := Aside0.mk (blk_below (blk_far (blk_far (blk_far (blk_far BK2e.out hn26 _) hn26 _) hn26 _) hn26 _) HX8.out); have hn28 : g2 ≠ g8 := (by have := blk_lt BK2e.out; omega); have BK3f := Aside0.mk (blk_below (blk_far (blk_far (blk_far (blk_far BK3e.out hn36 _) hn36 _) hn36 _) hn36 _) HX8.out); have hn38 : g3 ≠ g8 := (by have := blk_lt BK3e.out; omega); have BK4f := Aside0.mk (blk_below (blk_far (blk_far (blk_far (blk_far BK4c.out hn46 _) hn46 _) hn46 _) hn46 _) HX8.out); have hn48 : g4 ≠ g8 := (by have := blk_lt BK4c.out; omega); have BK6f := Aside0.mk (blk_below (blk_set (blk_set (blk_set (blk_set BK6.out 0 _) 1 _) 2 _) 3 _) HX8.out); have hn68 : g6 ≠ g8 := (by have := blk_lt BK6.out; omega); have HG8 := Aside0.mk (Nat.le_trans HB6.out.size hsz8); clear hsz8 hg6_0 hfg6_0 hg6_1 hfg6_1 hg6_2 hfg6_2 hg6_3 hfg6_3 hg1_0 hfg1_0 hg1_1 hfg1_1 hg2_0 hfg2_0 hg2_1 hfg2_1 hg2_2 hfg2_2 hg3_0 hfg3_0 hg3_1 hfg3_1 hg3_2 hfg3_2; (have hg6_0 : w8.cell? ⟨g6, 0, none⟩ = some (.bool false) := (blk_cell BK6f.out 0).trans rfl; have hfg6_0 := blk_frozen BK6f.out 0; have hg6_1 : w8.cell? ⟨g6, 1, none⟩ = some (.func (.func m) #[] #[]) := (blk_cell BK6f.out 1).trans rfl; have hfg6_1 := blk_frozen BK6f.out 1; have hg6_2 : w8.cell? ⟨g6, 2, none⟩ = some (kc) := (blk_cell BK6f.out 2).trans rfl; have hfg6_2 := blk_frozen BK6f.out 2; have hg6_3 : w8.cell? ⟨g6, 3, none⟩ = some (kd) := (blk_cell BK6f.out 3).trans rfl; have hfg6_3 := blk_frozen BK6f.out 3); (have hg1_0 : w8.cell? ⟨g1, 0, none⟩ = some (.int .i64 k) := (blk_cell BK1f.out 0).trans rfl; have hfg1_0 := blk_frozen BK1f.out 0; have hg1_1 : w8.cell? ⟨g1, 1, none⟩ = some (.int .i64 j) := (blk_cell BK1f.out 1).trans rfl; have hfg1_1 := blk_frozen BK1f.out 1); (have hg2_0 : w8.cell? ⟨g2, 0, none⟩ = some (.int .u64 n1) := (blk_cell BK2f.out 0).trans rfl; have hfg2_0 := blk_frozen BK2f.out 0; have hg2_1 : w8.cell? ⟨g2, 1, none⟩ = some (.int .i64 v1) := (blk_cell BK2f.out 1).trans rfl; have hfg2_1 := blk_frozen BK2f.out 1; have hg2_2 : w8.cell? ⟨g2, 2, none⟩ = some (.slice A1 l1.length c1) := (blk_cell BK2f.out 2).trans rfl; have hfg2_2 := blk_frozen BK2f.out 2); (have hg3_0 : w8.cell? ⟨g3, 0, none⟩ = some (.int .i64 tm) := (blk_cell BK3f.out 0).trans rfl; have hfg3_0 := blk_frozen BK3f.out 0; have hg3_1 : w8.cell? ⟨g3, 1, none⟩ = some (.slice A2 l2.length c2) := (blk_cell BK3f.out 1).trans rfl; have hfg3_1 := blk_frozen BK3f.out 1; have hg3_2 : w8.cell? ⟨g3, 2, none⟩ = some (.slice A3 l3.length c3) := (blk_cell BK3f.out 2).trans rfl; have hfg3_2 := blk_frozen BK3f.out 2); (have hg8_0 : w8.cell? ⟨g8, 0, none⟩ = some (.int .u64 0) := (blk_cell BK8.out 0).trans rfl; have hfg8_0 := blk_frozen BK8.out 0; have hg8_1 : w8.cell? ⟨g8, 1, none⟩ = some (.int .i64 0) := (blk_cell BK8.out 1).trans rfl; have hfg8_1 := blk_frozen BK8.out 1; have hg8_2 : w8.cell? ⟨g8, 2, none⟩ = some (.slice none 0 0) := (blk_cell BK8.out 2).trans rfl; have hfg8_2 := blk_frozen BK8.out 2))
    | fail)
  have HBq := Aside0.mk (show Below w.heap.size w (((w8.setCell ⟨g8, 0, none⟩ (.int .u64 n)).setCell ⟨g8, 1, none⟩ (.int .i64 0)).setCell ⟨g8, 2, none⟩ (.slice none 0 0)) from below_set (below_set (below_set HB8.out HG8.out) HG8.out) HG8.out)
  have BK1q := Aside0.mk (show (((w8.setCell ⟨g8, 0, none⟩ (.int .u64 n)).setCell ⟨g8, 1, none⟩ (.int .i64 0)).setCell ⟨g8, 2, none⟩ (.slice none 0 0)).heap[g1]? = some (.cells #[.int .i64 k, .int .i64 j] 23 (0, 0)) from (blk_far (blk_far (blk_far BK1f.out hn18 _) hn18 _) hn18 _))
  have BK2q := Aside0.mk (show (((w8.setCell ⟨g8, 0, none⟩ (.int .u64 n)).setCell ⟨g8, 1, none⟩ (.int .i64 0)).setCell ⟨g8, 2, none⟩ (.slice none 0 0)).heap[g2]? = some (.cells #[.int .u64 n1, .int .i64 v1, .slice A1 l1.length c1] 33 (0, 0)) from (blk_far (blk_far (blk_far BK2f.out hn28 _) hn28 _) hn28 _))
  have BK3q := Aside0.mk (show (((w8.setCell ⟨g8, 0, none⟩ (.int .u64 n)).setCell ⟨g8, 1, none⟩ (.int .i64 0)).setCell ⟨g8, 2, none⟩ (.slice none 0 0)).heap[g3]? = some (.cells #[.int .i64 tm, .slice A2 l2.length c2, .slice A3 l3.length c3] 42 (0, 0)) from (blk_far (blk_far (blk_far BK3f.out hn38 _) hn38 _) hn38 _))
  have BK4q := Aside0.mk (show (((w8.setCell ⟨g8, 0, none⟩ (.int .u64 n)).setCell ⟨g8, 1, none⟩ (.int .i64 0)).setCell ⟨g8, 2, none⟩ (.slice none 0 0)).heap[g4]? = some (.cells #[.int .u64 0, .int .i64 0, .slice none 0 0] 33 (0, 0)) from (blk_far (blk_far (blk_far BK4f.out hn48 _) hn48 _) hn48 _))
  have BK6q := Aside0.mk (show (((w8.setCell ⟨g8, 0, none⟩ (.int .u64 n)).setCell ⟨g8, 1, none⟩ (.int .i64 0)).setCell ⟨g8, 2, none⟩ (.slice none 0 0)).heap[g6]? = some (.cells #[.bool false, .func (.func m) #[] #[], kc, kd] 61 (0, 0)) from (blk_far (blk_far (blk_far BK6f.out hn68 _) hn68 _) hn68 _))
  have BK8q := Aside0.mk (show (((w8.setCell ⟨g8, 0, none⟩ (.int .u64 n)).setCell ⟨g8, 1, none⟩ (.int .i64 0)).setCell ⟨g8, 2, none⟩ (.slice none 0 0)).heap[g8]? = some (.cells #[.int .u64 n, .int .i64 0, .slice none 0 0] 33 (0, 0)) from (blk_set (blk_set (blk_set BK8.out 0 _) 1 _) 2 _))
  clear hg6_0 hfg6_0 hg6_1 hfg6_1 hg6_2 hfg6_2 hg6_3 hfg6_3 hg1_0 hfg1_0 hg1_1 hfg1_1 hg2_0 hfg2_0 hg2_1 hfg2_1 hg2_2 hfg2_2 hg3_0 hfg3_0 hg3_1 hfg3_1 hg3_2 hfg3_2 hg8_0 hfg8_0 hg8_1 hfg8_1 hg8_2 hfg8_2
  generalize (((w8.setCell ⟨g8, 0, none⟩ (.int .u64 n)).setCell ⟨g8, 1, none⟩ (.int .i64 0)).setCell ⟨g8, 2, none⟩ (.slice none 0 0)) = wq at *
  obtain rfl := HA3.out
  have p6 : wq.cell? ⟨g6, 1, none⟩ = some (.func (.func m) #[] #[]) := (blk_cell BK6q.out 1).trans rfl
  have p3 : wq.cell? ⟨g3, 2, none⟩ = some (.slice (some ad) l3.length c3) := (blk_cell BK3q.out 2).trans rfl
  have p1 : wq.cell? ⟨g1, 1, none⟩ = some (.int .i64 j) := (blk_cell BK1q.out 1).trans rfl
  have pe := pw_cell_below HBq.out HE.out
  have q0 : (0 ≤ j) = True := eq_true hj0
  have q1 : (j < (l3.length : Int)) = True := eq_true hj
  refine start_ (n := 12) (S := fun w' => w'.cell? ⟨g6, 1, none⟩ = some (.func (.func m) #[] #[]) ∧ w'.cell? ⟨g3, 2, none⟩ = some (.slice (some ad) l3.length c3) ∧ w'.cell? ⟨g1, 1, none⟩ = some (.int .i64 j) ∧ w'.cell? (ad.add j.toNat) = some (.int .i64 (rd l3 j))) (ds := [11]) #[false, false, false, false, false, false, false, false, false, false, false, false] (by kernel_rfl) rfl rfl ⟨p6, p3, p1, pe⟩ (fun hHeld => ?_)
  refine pure_ (i := 0) (N := some 70) (v := ?_) (a' := ?_) #[true, false, false, false, false, false, false, false, false, false, false, false] rfl rfl (by kernel_rfl) (fun _ _ _ h => h) (Or.inl ⟨by rfl, ?_⟩) ?_ ?_
  rotate_left
  · intro w'
    go_simp
    with_reducible rfl
  rotate_left
  · simp only [Act.put, List.setIfInBounds_toArray, List.set_cons_zero, List.set_cons_succ, i64_w, i32_w]
    rfl
  refine pure_ (i := 2) (N := some 72) (v := ?_) (a' := ?_) #[true, false, true, false, false, false, false, false, false, false, false, false] rfl rfl (by kernel_rfl) (fun _ _ _ h => h) (Or.inl ⟨by rfl, ?_⟩) ?_ ?_
  rotate_left
  · intro w'
    go_simp
    with_reducible rfl
  rotate_left
  · simp only [Act.put, List.setIfInBounds_toArray, List.set_cons_zero, List.set_cons_succ, i64_w, i32_w]
    rfl
  refine pure_ (i := 4) (N := some 74) (v := ?_) (a' := ?_) #[true, false, true, false, true, false, false, false, false, false, false, false] rfl rfl (by kernel_rfl) (fun _ _ _ h => h) (Or.inl ⟨by rfl, ?_⟩) ?_ ?_
  rotate_left
  · intro w'
    go_simp
    with_reducible rfl
  rotate_left
  · simp only [Act.put, List.setIfInBounds_toArray, List.set_cons_zero, List.set_cons_succ, i64_w, i32_w]
    rfl
  refine pure_ (i := 8) (N := some 78) (v := ?_) (a' := ?_) #[true, false, true, false, true, false, false, false, true, false, false, false] rfl rfl (by kernel_rfl) (fun _ _ _ h => h) (Or.inl ⟨by rfl, ?_⟩) ?_ ?_
  rotate_left
  · intro w'
    go_simp
    with_reducible rfl
  rotate_left
  · simp only [Act.put, List.setIfInBounds_toArray, List.set_cons_zero, List.set_cons_succ, i64_w, i32_w]
    rfl
  refine take_ (i := 1) (N := some 71) (v := ?_) (a' := ?_) #[true, true, true, false, true, false, false, false, true, false, false, false] rfl rfl (by kernel_rfl) (fun _ _ _ h => h) (Or.inl ⟨by rfl, ?_⟩) hHeld ?_ ?_
  rotate_left
  · rintro w' ⟨s0, s1, s2, s3⟩
    go_simp
    with_reducible rfl
  rotate_left
  · simp only [Act.put, List.setIfInBounds_toArray, List.set_cons_zero, List.set_cons_succ, i64_w, i32_w]
    rfl
  refine take_ (i := 3) (N := some 73) (v := ?_) (a' := ?_) #[true, true, true, true, true, false, false, false, true, false, false, false] rfl rfl (by kernel_rfl) (fun _ _ _ h => h) (Or.inl ⟨by rfl, ?_⟩) hHeld ?_ ?_
  rotate_left
  · rintro w' ⟨s0, s1, s2, s3⟩
    go_simp
    with_reducible rfl
  rotate_left
  · simp only [Act.put, List.setIfInBounds_toArray, List.set_cons_zero, List.set_cons_succ, i64_w, i32_w]
    rfl
  refine take_ (i := 5) (N := some 75) (v := ?_) (a' := ?_) #[true, true, true, true, true, true, false, false, true, false, false, false] rfl rfl (by kernel_rfl) (fun _ _ _ h => h) (Or.inl ⟨by rfl, ?_⟩) hHeld ?_ ?_
  rotate_left
  · rintro w' ⟨s0, s1, s2, s3⟩
    go_simp
    with_reducible rfl
  rotate_left
  · simp only [Act.put, List.setIfInBounds_toArray, List.set_cons_zero, List.set_cons_succ, i64_w, i32_w]
    rfl
  refine pure_ (i := 6) (N := some 76) (v := ?_) (a' := ?_) #[true, true, true, true, true, true, true, false, true, false, false, false] rfl rfl (by kernel_rfl) (fun _ _ _ h => h) (Or.inl ⟨by rfl, ?_⟩) ?_ ?_
  rotate_left
  · intro w'
    go_simp
    with_reducible rfl
  rotate_left
  · simp only [Act.put, List.setIfInBounds_toArray, List.set_cons_zero, List.set_cons_succ, i64_w, i32_w]
    rfl
  refine take_ (i := 7) (N := some 77) (v := ?_) (a' := ?_) #[true, true, true, true, true, true, true, true, true, false, false, false] rfl rfl (by kernel_rfl) (fun _ _ _ h => h) (Or.inl ⟨by rfl, ?_⟩) hHeld ?_ ?_
  rotate_left
  · rintro w' ⟨s0, s1, s2, s3⟩
    go_simp
    with_reducible rfl
  rotate_left
  · simp only [Act.put, List.setIfInBounds_toArray, List.set_cons_zero, List.set_cons_succ, i64_w, i32_w]
    rfl
  refine one_ (i := 9) (N := some 79) #[true, true, true, true, true, true, true, true, true, true, false, false] rfl rfl (by kernel_rfl) (by decide) (fun K hK => ?_)
  refine goesv_ HF.out HNm.out HBd.out (#[.int .i64 (rd l3 j), .int .u64 n]) (by rfl) rfl rfl rfl (by simp only [List.map_toArray, List.map_cons, List.map_nil]; rfl) ?_
  with_reducible refine (HV2.out _).mono ?_
  rintro e w9 ⟨rfl, hb9⟩
  refine ⟨_, rfl, ?_⟩
  have hbx : Below wq.heap.size wq w9 := below_then (below_drew (Below.refl _ _)) (Nat.le_refl _) hb9
  have HB9q := Aside0.mk (below_then HBq.out HBq.out.size hbx)
  have BK1r := Aside0.mk (blk_below BK1q.out hbx)
  have BK2r := Aside0.mk (blk_below BK2q.out hbx)
  have BK3r := Aside0.mk (blk_below BK3q.out hbx)
  have BK4r := Aside0.mk (blk_below BK4q.out hbx)
  have BK6r := Aside0.mk (blk_below BK6q.out hbx)
  have BK8r := Aside0.mk (blk_below BK8q.out hbx)
  have r6 : w9.cell? ⟨g6, 1, none⟩ = some (.func (.func m) #[] #[]) := (blk_cell BK6r.out 1).trans rfl
  have r3' : w9.cell? ⟨g3, 2, none⟩ = some (.slice (some ad) l3.length c3) := (blk_cell BK3r.out 2).trans rfl
  have r1' : w9.cell? ⟨g1, 1, none⟩ = some (.int .i64 j) := (blk_cell BK1r.out 1).trans rfl
  have re := pw_cell_below hbx pe
  have hg8_1 : w9.cell? ⟨g8, 1, none⟩ = some (.int .i64 0) := (blk_cell BK8r.out 1).trans rfl
  have hfg8_1 := blk_frozen BK8r.out 1
  clear hb9 hbx
  refine hK.out _ _ ⟨r6, r3', r1', re⟩ (fun hHeld => ?_)
  clear hK K
  refine norm_ (a' := ?_) ?_ ?_
  rotate_left
  · show Act.put _ (some 79) _ = _
    simp only [Act.put, List.setIfInBounds_toArray, List.set_cons_zero, List.set_cons_succ, i64_w, i32_w]
    rfl
  refine pure_ (i := 10) (N := some 80) (v := ?_) (a' := ?_) #[true, true, true, true, true, true, true, true, true, true, true, false] rfl rfl (by kernel_rfl) (fun _ _ _ h => h) (Or.inl ⟨by rfl, ?_⟩) ?_ ?_
  rotate_left
  · intro w'
    go_simp
    with_reducible rfl
  rotate_left
  · simp only [Act.put, List.setIfInBounds_toArray, List.set_cons_zero, List.set_cons_succ, i64_w, i32_w]
    rfl
  refine last_ (i := 11) (N := none) #[true, true, true, true, true, true, true, true, true, true, true, true] rfl rfl (by kernel_rfl) (by decide) (fun K hK => ?_)
  refine skip_ (w1 := ?_) (by rfl) rfl ?_ ?_
  rotate_left
  · go_simp
    rfl
  refine hK.out _ _ ?_
  clear hK K
  refine done_ (by kernel_rfl) ?_
  have HBs := Aside0.mk (show Below w.heap.size w (w9.setCell ⟨g8, 1, none⟩ (.int .i64 y)) from below_set HB9q.out HG8.out)
  have BK1s := Aside0.mk (show (w9.setCell ⟨g8, 1, none⟩ (.int .i64 y)).heap[g1]? = some (.cells #[.int .i64 k, .int .i64 j] 23 (0, 0)) from blk_far BK1r.out hn18 _)
  have BK2s := Aside0.mk (show (w9.setCell ⟨g8, 1, none⟩ (.int .i64 y)).heap[g2]? = some (.cells #[.int .u64 n1, .int .i64 v1, .slice A1 l1.length c1] 33 (0, 0)) from blk_far BK2r.out hn28 _)
  have BK4s := Aside0.mk (show (w9.setCell ⟨g8, 1, none⟩ (.int .i64 y)).heap[g4]? = some (.cells #[.int .u64 0, .int .i64 0, .slice none 0 0] 33 (0, 0)) from blk_far BK4r.out hn48 _)
  have BK8s := Aside0.mk (show (w9.setCell ⟨g8, 1, none⟩ (.int .i64 y)).heap[g8]? = some (.cells #[.int .u64 n, .int .i64 y, .slice none 0 0] 33 (0, 0)) from blk_set BK8r.out 1 _)
  clear p6 p3 p1 pe q0 q1 r6 r3' r1' re hg8_1 hfg8_1 hHeld
  generalize w9.setCell ⟨g8, 1, none⟩ (.int .i64 y) = ws at *
  (have hg1_0 : ws.cell? ⟨g1, 0, none⟩ = some (.int .i64 k) := (blk_cell BK1s.out 0).trans rfl; have hfg1_0 := blk_frozen BK1s.out 0; have hg1_1 : ws.cell? ⟨g1, 1, none⟩ = some (.int .i64 j) := (blk_cell BK1s.out 1).trans rfl; have hfg1_1 := blk_frozen BK1s.out 1)
  (have hg2_0 : ws.cell? ⟨g2, 0, none⟩ = some (.int .u64 n1) := (blk_cell BK2s.out 0).trans rfl; have hfg2_0 := blk_frozen BK2s.out 0; have hg2_1 : ws.cell? ⟨g2, 1, none⟩ = some (.int .i64 v1) := (blk_cell BK2s.out 1).trans rfl; have hfg2_1 := blk_frozen BK2s.out 1; have hg2_2 : ws.cell? ⟨g2, 2, none⟩ = some (.slice A1 l1.length c1) := (blk_cell BK2s.out 2).trans rfl; have hfg2_2 := blk_frozen BK2s.out 2)
  (have hg8_0 : ws.cell? ⟨g8, 0, none⟩ = some (.int .u64 n) := (blk_cell BK8s.out 0).trans rfl; have hfg8_0 := blk_frozen BK8s.out 0; have hg8_1 : ws.cell? ⟨g8, 1, none⟩ = some (.int .i64 y) := (blk_cell BK8s.out 1).trans rfl; have hfg8_1 := blk_frozen BK8s.out 1; have hg8_2 : ws.cell? ⟨g8, 2, none⟩ = some (.slice none 0 0) := (blk_cell BK8s.out 2).trans rfl; have hfg8_2 := blk_frozen BK8s.out 2)
  go_wp2_with fail
  clear hg1_0 hfg1_0 hg1_1 hfg1_1
  clear hg2_0 hfg2_0 hg2_1 hfg2_1 hg2_2 hfg2_2
  clear hg8_0 hfg8_0 hg8_1 hfg8_1 hg8_2 hfg8_2
  refine (agg_Merge.calls _ _ _ _ _ _ _ _ _ none 0 [] r1 r2 r3 _ (Kd.C_below HR1.out HBs.out) HC1.out (C_none _ _) (Nat.le_refl _) hM.out).mono ?_
  rintro e w9 ⟨v9, rfl, ho9, hb9⟩
  obtain ⟨A9, c9, rfl, -, -⟩ := Kd.R_reads ho9
  have BK4m := Aside0.mk (blk_below BK4s.out hb9)
  have HB9 := Aside0.mk (below_then HBs.out HBs.out.size hb9)
  have HO9 := Aside0.mk ho9
  have HSb := Aside0.mk HBs.out.size
  clear ho9 hb9
  (have hg4_0 : w9.cell? ⟨g4, 0, none⟩ = some (.int .u64 0) := (blk_cell BK4m.out 0).trans rfl; have hfg4_0 := blk_frozen BK4m.out 0; have hg4_1 : w9.cell? ⟨g4, 1, none⟩ = some (.int .i64 0) := (blk_cell BK4m.out 1).trans rfl; have hfg4_1 := blk_frozen BK4m.out 1; have hg4_2 : w9.cell? ⟨g4, 2, none⟩ = some (.slice none 0 0) := (blk_cell BK4m.out 2).trans rfl; have hfg4_2 := blk_frozen BK4m.out 2)
  go_wp2_with fail
  have HT := Aside0.mk (show ∀ q, q ∈ 9 :: Kd.string.E → q ≠ 33 by decide)
  have b1 := blk_set BK4m.out 0 (.int .u64 r1)
  have b2 := blk_set b1 1 (.int .i64 r2)
  have b3 := blk_set b2 2 (.slice A9 r3.length c9)
  have q1 := Kd.R_set (Kd.R_set (Kd.R_set HO9.out BK4m.out HT.out 0 (.int .u64 r1)) b1 HT.out 1 (.int .i64 r2)) b2 HT.out 2 (.slice A9 r3.length c9)
  exact bodyPost_ret (results_cell_row rfl _ _ g4 33 #[.int .u64 r1, .int .i64 r2, .slice A9 r3.length c9] (0, 0) _ rfl b3 Try.underlying33 rfl (by kernel_rfl)) rfl ⟨_, rfl, Kd.R_lower q1 HSb.out, below_set (below_set (below_set HB9.out HG4.out) HG4.out) HG4.out⟩
set_option maxRecDepth 100000 in
set_option maxHeartbeats 3200000 in
theorem add_dim (k j n1 v1 tm n : Int) (A1 A2 A3 : Option Addr) (l1 l2 : List ByteArray) (l3 : List Int) (c1 c2 c3 : Nat) (w : World) (ka kb kc kd : Value) (HC : Knows k j #[ka, kb, kc, kd] true)
    (h1 : ka.oneCell' = true) (h2 : kb.oneCell' = true) (h3 : kc.oneCell' = true) (h4 : kd.oneCell' = true) (hr1 : Kd.C Kd.string w A1 l1.length l1) (hc1 : l1.length ≤ c1) (r1 r2 : Int) (r3 : List ByteArray) (e1 : (n == 0) = false) (hka : ka = .bool true) (hkb : kb = .nilFunc) (hj0 : 0 ≤ j) (hj : j < (l2.length : Int)) (hr2 : Kd.C Kd.string w A2 l2.length l2) (HM : agg_Merge.f k j n1 v1 l1 n 0 [l2.getD j.toNat ⟨#[]⟩] = some (r1, r2, r3)) :
    Calls Try.prog 19 #[.agg #[.int .i64 k, .int .i64 j], .agg #[.int .u64 n1, .int .i64 v1, .slice A1 l1.length c1], .agg #[.int .i64 tm, .slice A2 l2.length c2, .slice A3 l3.length c3], .int .u64 n] w (Merged w r1 r2 r3) := by
  have sa := store_fact h1
  have sb := store_fact h2
  have sc := store_fact h3
  have sd := store_fact h4
  have HR1 := Aside0.mk hr1
  have HC1 := Aside0.mk hc1
  clear h1 h2 h3 h4 hr1 hc1
  subst hka
  subst hkb
  have hM := Aside0.mk HM
  clear HM
  obtain ⟨ad, cc, hA2, hcl, hcK, hcc⟩ := Kd.C_get hr2 (⟨#[]⟩ : ByteArray) j hj0 hj
  have HE := Aside0.mk (show w.cell? (ad.add j.toNat) = some (.string (l2.getD j.toNat ⟨#[]⟩)) from by
    have h1 : cc = [Value.string (l2.getD j.toNat ⟨#[]⟩)] := hcK
    subst h1
    have h2 := hcc 0 _ rfl
    have e : Kd.string.sz = 1 := rfl
    rw [e, Nat.mul_one, Nat.add_zero] at h2
    exact h2)
  have HA2 := Aside0.mk hA2
  clear hcl hcK hcc hr2 hA2
  generalize l2.getD j.toNat ⟨#[]⟩ = s at *
  have d0 : decide (0 ≤ j) = true := decide_eq_true hj0
  have d1 : decide (j < (l2.length : Int)) = true := decide_eq_true hj
  have q0 : (0 ≤ j) = True := eq_true hj0
  have q1 : (j < (l2.length : Int)) = True := eq_true hj
  go_enter Try.func19, Try.ntmps19
  go_upto_region 6 with (first
    | ((with_reducible refine gate_dst (N := 4) rfl ?_); refine box_event ?hg (N := 4) ?hd (cs := #[.int .i64 k, .int .i64 j]) (t := 23) ?hr ?_; (case hd => rfl); (case hg => rfl); (case hr => first | (go_simp; done) | (go_simp; rfl)); intro g1 hg w1 hbox hb; have GE1 := Aside0.mk (Nat.le_of_eq hg.symm); have BK1 := Aside0.mk hbox; have HX1 := Aside0.mk hb; clear hg hbox hb)
    | ((with_reducible refine gate_dst (N := 5) rfl ?_); refine box_event ?hg (N := 5) ?hd (cs := #[.int .u64 n1, .int .i64 v1, .slice A1 l1.length c1]) (t := 33) ?hr ?_; (case hd => rfl); (case hg => rfl); (case hr => first | (go_simp; done) | (go_simp; rfl)); intro g2 hg w2 hbox hb; have GE2 := Aside0.mk (Nat.le_of_eq hg.symm); have BK2 := Aside0.mk hbox; have HX2 := Aside0.mk hb; clear hg hbox hb)
    | (((with_reducible refine gate_dst (N := 6) rfl ?_); refine box_event ?hg (N := 6) ?hd (cs := #[.int .i64 tm, .slice A2 l2.length c2, .slice A3 l3.length c3]) (t := 42) ?hr ?_; (case hd => rfl); (case hg => rfl); (case hr => first | (go_simp; done) | (go_simp; rfl)); intro g3 hg w3 hbox hb; have GE3 := Aside0.mk (Nat.le_of_eq hg.symm); have BK3 := Aside0.mk hbox; have HX3 := Aside0.mk hb; clear hg hbox hb); have BK1b := Aside0.mk (blk_below (blk_below BK1.out HX2.out) HX3.out); have BK2b := Aside0.mk (blk_below BK2.out HX3.out); have HB3 := Aside0.mk (below_then (below_then HX1.out HX1.out.size HX2.out) (Nat.le_trans HX1.out.size HX2.out.size) HX3.out))
    | (((with_reducible refine gate_dst (N := 8) rfl ?_); refine box_event ?hg (N := 8) ?hd (cs := #[.int .u64 0, .int .i64 0, .slice none 0 0]) (t := 33) ?hr ?_; (case hd => rfl); (case hg => rfl); (case hr => first | (go_simp; done) | (go_simp; rfl)); intro g4 hg w4 hbox hb; have GE4 := Aside0.mk (Nat.le_of_eq hg.symm); have BK4 := Aside0.mk hbox; have HX4 := Aside0.mk hb; clear hg hbox hb); have BK1c := Aside0.mk (blk_below BK1b.out HX4.out); have BK2c := Aside0.mk (blk_below BK2b.out HX4.out); have BK3c := Aside0.mk (blk_below BK3.out HX4.out); have HB4 := Aside0.mk (below_then HB3.out HB3.out.size HX4.out); have HG4 := Aside0.mk (Nat.le_trans HB3.out.size GE4.out); (have hg1_0 : w4.cell? ⟨g1, 0, none⟩ = some (.int .i64 k) := (blk_cell BK1c.out 0).trans rfl; have hfg1_0 := blk_frozen BK1c.out 0; have hg1_1 : w4.cell? ⟨g1, 1, none⟩ = some (.int .i64 j) := (blk_cell BK1c.out 1).trans rfl; have hfg1_1 := blk_frozen BK1c.out 1); have hn14 : g1 ≠ g4 := (by have := blk_lt BK1b.out; have := GE4.out; omega); have hn24 : g2 ≠ g4 := (by have := blk_lt BK2b.out; have := GE4.out; omega); have hn34 : g3 ≠ g4 := (by have := blk_lt BK3.out; have := GE4.out; omega))
    | (go_at_call 27; refine (HC _).mono ?_; rintro e w5 ⟨rfl, hb5⟩; have BK4b := Aside0.mk (blk_below BK4.out hb5); have BK1d := Aside0.mk (blk_below BK1c.out hb5); have BK2d := Aside0.mk (blk_below BK2c.out hb5); have BK3d := Aside0.mk (blk_below BK3c.out hb5); have HB5 := Aside0.mk (below_then HB4.out HB4.out.size hb5); clear hb5; clear hg1_0 hfg1_0 hg1_1 hfg1_1)
    | (((with_reducible refine gate_dst (N := 9) rfl ?_); refine box_event ?hg (N := 9) ?hd (cs := #[.bool false, .nilFunc, .nilFunc, .nilFunc]) (t := 61) ?hr ?_; (case hd => rfl); (case hg => rfl); (case hr => first | (go_simp; done) | (go_simp; rfl)); intro g6 hg w6 hbox hb; have GE6 := Aside0.mk (Nat.le_of_eq hg.symm); have BK6 := Aside0.mk hbox; have HX6 := Aside0.mk hb; clear hg hbox hb); have BK4c := Aside0.mk (blk_below BK4b.out HX6.out); have BK1e := Aside0.mk (blk_below BK1d.out HX6.out); have BK2e := Aside0.mk (blk_below BK2d.out HX6.out); have BK3e := Aside0.mk (blk_below BK3d.out HX6.out); have HB6 := Aside0.mk (below_then HB5.out HB5.out.size HX6.out); have HG6 := Aside0.mk (Nat.le_trans HB5.out.size GE6.out); (have hg6_0 : w6.cell? ⟨g6, 0, none⟩ = some (.bool false) := (blk_cell BK6.out 0).trans rfl; have hfg6_0 := blk_frozen BK6.out 0; have hg6_1 : w6.cell? ⟨g6, 1, none⟩ = some (.nilFunc) := (blk_cell BK6.out 1).trans rfl; have hfg6_1 := blk_frozen BK6.out 1; have hg6_2 : w6.cell? ⟨g6, 2, none⟩ = some (.nilFunc) := (blk_cell BK6.out 2).trans rfl; have hfg6_2 := blk_frozen BK6.out 2; have hg6_3 : w6.cell? ⟨g6, 3, none⟩ = some (.nilFunc) := (blk_cell BK6.out 3).trans rfl; have hfg6_3 := blk_frozen BK6.out 3); (have hg1_0 : w6.cell? ⟨g1, 0, none⟩ = some (.int .i64 k) := (blk_cell BK1e.out 0).trans rfl; have hfg1_0 := blk_frozen BK1e.out 0; have hg1_1 : w6.cell? ⟨g1, 1, none⟩ = some (.int .i64 j) := (blk_cell BK1e.out 1).trans rfl; have hfg1_1 := blk_frozen BK1e.out 1); (have hg2_0 : w6.cell? ⟨g2, 0, none⟩ = some (.int .u64 n1) := (blk_cell BK2e.out 0).trans rfl; have hfg2_0 := blk_frozen BK2e.out 0; have hg2_1 : w6.cell? ⟨g2, 1, none⟩ = some (.int .i64 v1) := (blk_cell BK2e.out 1).trans rfl; have hfg2_1 := blk_frozen BK2e.out 1; have hg2_2 : w6.cell? ⟨g2, 2, none⟩ = some (.slice A1 l1.length c1) := (blk_cell BK2e.out 2).trans rfl; have hfg2_2 := blk_frozen BK2e.out 2); (have hg3_0 : w6.cell? ⟨g3, 0, none⟩ = some (.int .i64 tm) := (blk_cell BK3e.out 0).trans rfl; have hfg3_0 := blk_frozen BK3e.out 0; have hg3_1 : w6.cell? ⟨g3, 1, none⟩ = some (.slice A2 l2.length c2) := (blk_cell BK3e.out 1).trans rfl; have hfg3_1 := blk_frozen BK3e.out 1; have hg3_2 : w6.cell? ⟨g3, 2, none⟩ = some (.slice A3 l3.length c3) := (blk_cell BK3e.out 2).trans rfl; have hfg3_2 := blk_frozen BK3e.out 2); have hn16 : g1 ≠ g6 := (by have := blk_lt BK1d.out; have := GE6.out; omega); have hn46 : g4 ≠ g6 := (by have := blk_lt BK4b.out; have := GE6.out; omega); have hn26 : g2 ≠ g6 := (by have := blk_lt BK2d.out; have := GE6.out; omega); have hn36 : g3 ≠ g6 := (by have := blk_lt BK3d.out; have := GE6.out; omega))
    | (((with_reducible refine gate_dst (N := 11) rfl ?_); refine box_event ?hg (N := 11) ?hd (cs := #[.int .u64 0, .int .i64 0, .slice none 0 0]) (t := 33) ?hr ?_; (case hd => rfl); (case hg => rfl); (case hr => first | (go_simp; done) | (go_simp; rfl)); intro g8 hg w8 hbox hb; have GE8 := Aside0.mk (Nat.le_of_eq hg.symm); have BK8 := Aside0.mk hbox; have HX8 := Aside0.mk hb; clear hg hbox hb); have hsz8 : w6.heap.size ≤ g8 := (by have := GE8.out; simpa using this); have HB8 := Aside0.mk (below_then (below_set (below_set (below_set (below_set HB6.out HG6.out) HG6.out) HG6.out) HG6.out) (by simp; exact HB6.out.size) HX8.out); have BK1f := Aside0.mk (blk_below (blk_far (blk_far (blk_far (blk_far BK1e.out hn16 _) hn16 _) hn16 _) hn16 _) HX8.out); have hn18 : g1 ≠ g8 := (by have := blk_lt BK1e.out; omega); have BK2f := Aside0.mk (blk_below (blk_far (blk_far (blk_far (blk_far BK2e.out hn26 _) hn26 _) hn26 _) hn26 _) HX8.out); have hn28 : g2 ≠ g8 := (by have := blk_lt BK2e.out; omega); have BK3f := Aside0.mk (blk_below (blk_far (blk_far (blk_far (blk_far BK3e.out hn36 _) hn36 _) hn36 _) hn36 _) HX8.out); have hn38 : g3 ≠ g8 := (by have := blk_lt BK3e.out; omega); have BK4f := Aside0.mk (blk_below (blk_far (blk_far (blk_far (blk_far BK4c.out hn46 _) hn46 _) hn46 _) hn46 _) HX8.out); have hn48 : g4 ≠ g8 := (by have := blk_lt BK4c.out; omega); have BK6f := Aside0.mk (blk_below (blk_set (blk_set (blk_set (blk_set BK6.out 0 _) 1 _) 2 _) 3 _) HX8.out); have hn68 : g6 ≠ g8 := (by have := blk_lt BK6.out; omega); have HG8 := Aside0.mk (Nat.le_trans HB6.out.size hsz8); clear hsz8 hg6_0 hfg6_0 hg6_1 hfg6_1 hg6_2 hfg6_2 hg6_3 hfg6_3 hg1_0 hfg1_0 hg1_1 hfg1_1 hg2_0 hfg2_0 hg2_1 hfg2_1 hg2_2 hfg2_2 hg3_0 hfg3_0 hg3_1 hfg3_1 hg3_2 hfg3_2; (have hg6_0 : w8.cell? ⟨g6, 0, none⟩ = some (.bool true) := (blk_cell BK6f.out 0).trans rfl; have hfg6_0 := blk_frozen BK6f.out 0; have hg6_1 : w8.cell? ⟨g6, 1, none⟩ = some (.nilFunc) := (blk_cell BK6f.out 1).trans rfl; have hfg6_1 := blk_frozen BK6f.out 1; have hg6_2 : w8.cell? ⟨g6, 2, none⟩ = some (kc) := (blk_cell BK6f.out 2).trans rfl; have hfg6_2 := blk_frozen BK6f.out 2; have hg6_3 : w8.cell? ⟨g6, 3, none⟩ = some (kd) := (blk_cell BK6f.out 3).trans rfl; have hfg6_3 := blk_frozen BK6f.out 3); (have hg1_0 : w8.cell? ⟨g1, 0, none⟩ = some (.int .i64 k) := (blk_cell BK1f.out 0).trans rfl; have hfg1_0 := blk_frozen BK1f.out 0; have hg1_1 : w8.cell? ⟨g1, 1, none⟩ = some (.int .i64 j) := (blk_cell BK1f.out 1).trans rfl; have hfg1_1 := blk_frozen BK1f.out 1); (have hg2_0 : w8.cell? ⟨g2, 0, none⟩ = some (.int .u64 n1) := (blk_cell BK2f.out 0).trans rfl; have hfg2_0 := blk_frozen BK2f.out 0; have hg2_1 : w8.cell? ⟨g2, 1, none⟩ = some (.int .i64 v1) := (blk_cell BK2f.out 1).trans rfl; have hfg2_1 := blk_frozen BK2f.out 1; have hg2_2 : w8.cell? ⟨g2, 2, none⟩ = some (.slice A1 l1.length c1) := (blk_cell BK2f.out 2).trans rfl; have hfg2_2 := blk_frozen BK2f.out 2); (have hg3_0 : w8.cell? ⟨g3, 0, none⟩ = some (.int .i64 tm) := (blk_cell BK3f.out 0).trans rfl; have hfg3_0 := blk_frozen BK3f.out 0; have hg3_1 : w8.cell? ⟨g3, 1, none⟩ = some (.slice A2 l2.length c2) := (blk_cell BK3f.out 1).trans rfl; have hfg3_1 := blk_frozen BK3f.out 1; have hg3_2 : w8.cell? ⟨g3, 2, none⟩ = some (.slice A3 l3.length c3) := (blk_cell BK3f.out 2).trans rfl; have hfg3_2 := blk_frozen BK3f.out 2); (have hg8_0 : w8.cell? ⟨g8, 0, none⟩ = some (.int .u64 0) := (blk_cell BK8.out 0).trans rfl; have hfg8_0 := blk_frozen BK8.out 0; have hg8_1 : w8.cell? ⟨g8, 1, none⟩ = some (.int .i64 0) := (blk_cell BK8.out 1).trans rfl; have hfg8_1 := blk_frozen BK8.out 1; have hg8_2 : w8.cell? ⟨g8, 2, none⟩ = some (.slice none 0 0) := (blk_cell BK8.out 2).trans rfl; have hfg8_2 := blk_frozen BK8.out 2))
    | fail)
  have HBq := Aside0.mk (show Below w.heap.size w (((w8.setCell ⟨g8, 0, none⟩ (.int .u64 n)).setCell ⟨g8, 1, none⟩ (.int .i64 0)).setCell ⟨g8, 2, none⟩ (.slice none 0 0)) from below_set (below_set (below_set HB8.out HG8.out) HG8.out) HG8.out)
  have BK1q := Aside0.mk (show (((w8.setCell ⟨g8, 0, none⟩ (.int .u64 n)).setCell ⟨g8, 1, none⟩ (.int .i64 0)).setCell ⟨g8, 2, none⟩ (.slice none 0 0)).heap[g1]? = some (.cells #[.int .i64 k, .int .i64 j] 23 (0, 0)) from (blk_far (blk_far (blk_far BK1f.out hn18 _) hn18 _) hn18 _))
  have BK2q := Aside0.mk (show (((w8.setCell ⟨g8, 0, none⟩ (.int .u64 n)).setCell ⟨g8, 1, none⟩ (.int .i64 0)).setCell ⟨g8, 2, none⟩ (.slice none 0 0)).heap[g2]? = some (.cells #[.int .u64 n1, .int .i64 v1, .slice A1 l1.length c1] 33 (0, 0)) from (blk_far (blk_far (blk_far BK2f.out hn28 _) hn28 _) hn28 _))
  have BK3q := Aside0.mk (show (((w8.setCell ⟨g8, 0, none⟩ (.int .u64 n)).setCell ⟨g8, 1, none⟩ (.int .i64 0)).setCell ⟨g8, 2, none⟩ (.slice none 0 0)).heap[g3]? = some (.cells #[.int .i64 tm, .slice A2 l2.length c2, .slice A3 l3.length c3] 42 (0, 0)) from (blk_far (blk_far (blk_far BK3f.out hn38 _) hn38 _) hn38 _))
  have BK4q := Aside0.mk (show (((w8.setCell ⟨g8, 0, none⟩ (.int .u64 n)).setCell ⟨g8, 1, none⟩ (.int .i64 0)).setCell ⟨g8, 2, none⟩ (.slice none 0 0)).heap[g4]? = some (.cells #[.int .u64 0, .int .i64 0, .slice none 0 0] 33 (0, 0)) from (blk_far (blk_far (blk_far BK4f.out hn48 _) hn48 _) hn48 _))
  have BK6q := Aside0.mk (show (((w8.setCell ⟨g8, 0, none⟩ (.int .u64 n)).setCell ⟨g8, 1, none⟩ (.int .i64 0)).setCell ⟨g8, 2, none⟩ (.slice none 0 0)).heap[g6]? = some (.cells #[.bool true, .nilFunc, kc, kd] 61 (0, 0)) from (blk_far (blk_far (blk_far BK6f.out hn68 _) hn68 _) hn68 _))
  have BK8q := Aside0.mk (show (((w8.setCell ⟨g8, 0, none⟩ (.int .u64 n)).setCell ⟨g8, 1, none⟩ (.int .i64 0)).setCell ⟨g8, 2, none⟩ (.slice none 0 0)).heap[g8]? = some (.cells #[.int .u64 n, .int .i64 0, .slice none 0 0] 33 (0, 0)) from (blk_set (blk_set (blk_set BK8.out 0 _) 1 _) 2 _))
  clear hg6_0 hfg6_0 hg6_1 hfg6_1 hg6_2 hfg6_2 hg6_3 hfg6_3 hg1_0 hfg1_0 hg1_1 hfg1_1 hg2_0 hfg2_0 hg2_1 hfg2_1 hg2_2 hfg2_2 hg3_0 hfg3_0 hg3_1 hfg3_1 hg3_2 hfg3_2 hg8_0 hfg8_0 hg8_1 hfg8_1 hg8_2 hfg8_2
  generalize (((w8.setCell ⟨g8, 0, none⟩ (.int .u64 n)).setCell ⟨g8, 1, none⟩ (.int .i64 0)).setCell ⟨g8, 2, none⟩ (.slice none 0 0)) = wq at *
  have pe := pw_cell_below HBq.out HE.out
  obtain rfl := HA2.out
  (have hg1_0 : wq.cell? ⟨g1, 0, none⟩ = some (.int .i64 k) := (blk_cell BK1q.out 0).trans rfl; have hfg1_0 := blk_frozen BK1q.out 0; have hg1_1 : wq.cell? ⟨g1, 1, none⟩ = some (.int .i64 j) := (blk_cell BK1q.out 1).trans rfl; have hfg1_1 := blk_frozen BK1q.out 1)
  (have hg2_0 : wq.cell? ⟨g2, 0, none⟩ = some (.int .u64 n1) := (blk_cell BK2q.out 0).trans rfl; have hfg2_0 := blk_frozen BK2q.out 0; have hg2_1 : wq.cell? ⟨g2, 1, none⟩ = some (.int .i64 v1) := (blk_cell BK2q.out 1).trans rfl; have hfg2_1 := blk_frozen BK2q.out 1; have hg2_2 : wq.cell? ⟨g2, 2, none⟩ = some (.slice A1 l1.length c1) := (blk_cell BK2q.out 2).trans rfl; have hfg2_2 := blk_frozen BK2q.out 2)
  (have hg3_0 : wq.cell? ⟨g3, 0, none⟩ = some (.int .i64 tm) := (blk_cell BK3q.out 0).trans rfl; have hfg3_0 := blk_frozen BK3q.out 0; have hg3_1 : wq.cell? ⟨g3, 1, none⟩ = some (.slice (some ad) l2.length c2) := (blk_cell BK3q.out 1).trans rfl; have hfg3_1 := blk_frozen BK3q.out 1; have hg3_2 : wq.cell? ⟨g3, 2, none⟩ = some (.slice A3 l3.length c3) := (blk_cell BK3q.out 2).trans rfl; have hfg3_2 := blk_frozen BK3q.out 2)
  (have hg8_0 : wq.cell? ⟨g8, 0, none⟩ = some (.int .u64 n) := (blk_cell BK8q.out 0).trans rfl; have hfg8_0 := blk_frozen BK8q.out 0; have hg8_1 : wq.cell? ⟨g8, 1, none⟩ = some (.int .i64 0) := (blk_cell BK8q.out 1).trans rfl; have hfg8_1 := blk_frozen BK8q.out 1; have hg8_2 : wq.cell? ⟨g8, 2, none⟩ = some (.slice none 0 0) := (blk_cell BK8q.out 2).trans rfl; have hfg8_2 := blk_frozen BK8q.out 2)
  go_wp2_with (first
    | ((with_reducible refine gate_dst (N := 51) rfl ?_); refine Kd.R_lit Kd.string (w0 := wq) wq.heap.size 9 ?hg (N := 51) ?hd (xs := [s]) (inner := [.string s]) (ok := fun _ => True) (okp := fun _ => True) ?hr ?hp (fun _ hk => hk) trivial (Below.refl _ _) (Nat.le_refl _) (by simp) ?_; (case hd => rfl); (case hg => rfl); (case hr => first | (go_simp; done) | (go_simp; rfl)); (case hp => exact Reps.one (show Kd.M Kd.string _ _ _ s [.string s] from rfl) (Reps.none _ _)); intro v9 w9 ho9 hb9 hg9 ha9; obtain ⟨A9, c9, rfl, hc9, hC9⟩ := Kd.R_reads ho9; have HB9r := Aside0.mk (below_then HBq.out HBq.out.size hb9); have BK1r := Aside0.mk (blk_below BK1q.out hb9); have BK2r := Aside0.mk (blk_below BK2q.out hb9); have BK4r := Aside0.mk (blk_below BK4q.out hb9); have BK8r := Aside0.mk (blk_below BK8q.out hb9); have HO9r := Aside0.mk ho9; have HC9r := Aside0.mk hc9; clear hg1_0 hfg1_0 hg1_1 hfg1_1; clear hg2_0 hfg2_0 hg2_1 hfg2_1 hg2_2 hfg2_2; clear hg3_0 hfg3_0 hg3_1 hfg3_1 hg3_2 hfg3_2; clear hg8_0 hfg8_0 hg8_1 hfg8_1 hg8_2 hfg8_2; clear ho9 hb9 hg9 ha9 hc9 hC9; (have hg1_0 : w9.cell? ⟨g1, 0, none⟩ = some (.int .i64 k) := (blk_cell BK1r.out 0).trans rfl; have hfg1_0 := blk_frozen BK1r.out 0; have hg1_1 : w9.cell? ⟨g1, 1, none⟩ = some (.int .i64 j) := (blk_cell BK1r.out 1).trans rfl; have hfg1_1 := blk_frozen BK1r.out 1); (have hg2_0 : w9.cell? ⟨g2, 0, none⟩ = some (.int .u64 n1) := (blk_cell BK2r.out 0).trans rfl; have hfg2_0 := blk_frozen BK2r.out 0; have hg2_1 : w9.cell? ⟨g2, 1, none⟩ = some (.int .i64 v1) := (blk_cell BK2r.out 1).trans rfl; have hfg2_1 := blk_frozen BK2r.out 1; have hg2_2 : w9.cell? ⟨g2, 2, none⟩ = some (.slice A1 l1.length c1) := (blk_cell BK2r.out 2).trans rfl; have hfg2_2 := blk_frozen BK2r.out 2); (have hg8_0 : w9.cell? ⟨g8, 0, none⟩ = some (.int .u64 n) := (blk_cell BK8r.out 0).trans rfl; have hfg8_0 := blk_frozen BK8r.out 0; have hg8_1 : w9.cell? ⟨g8, 1, none⟩ = some (.int .i64 0) := (blk_cell BK8r.out 1).trans rfl; have hfg8_1 := blk_frozen BK8r.out 1; have hg8_2 : w9.cell? ⟨g8, 2, none⟩ = some (.slice none 0 0) := (blk_cell BK8r.out 2).trans rfl; have hfg8_2 := blk_frozen BK8r.out 2))
    | fail)
  have HT9 := Aside0.mk (show ∀ q, q ∈ 9 :: Kd.string.E → q ≠ 33 by decide)
  have HBs := Aside0.mk (show Below w.heap.size w (w9.setCell ⟨g8, 2, none⟩ (.slice A9 1 c9)) from below_set HB9r.out HG8.out)
  have BK4s := Aside0.mk (show (w9.setCell ⟨g8, 2, none⟩ (.slice A9 1 c9)).heap[g4]? = some (.cells #[.int .u64 0, .int .i64 0, .slice none 0 0] 33 (0, 0)) from blk_far BK4r.out hn48 _)
  have HCs := Aside0.mk (show Kd.C Kd.string (w9.setCell ⟨g8, 2, none⟩ (.slice A9 1 c9)) A9 ([s] : List ByteArray).length [s] from (Kd.R_reads' (Kd.R_set HO9r.out BK8r.out HT9.out 2 (.slice A9 1 c9))).2.2)
  clear hg1_0 hfg1_0 hg1_1 hfg1_1
  clear hg2_0 hfg2_0 hg2_1 hfg2_1 hg2_2 hfg2_2
  clear hg8_0 hfg8_0 hg8_1 hfg8_1 hg8_2 hfg8_2
  generalize w9.setCell ⟨g8, 2, none⟩ (.slice A9 1 c9) = ws at *
  refine (agg_Merge.calls _ _ _ _ _ _ _ _ _ A9 c9 [s] r1 r2 r3 _ (Kd.C_below HR1.out HBs.out) HC1.out HCs.out HC9r.out hM.out).mono ?_
  rintro e w9 ⟨v9, rfl, ho9, hb9⟩
  obtain ⟨A9, c9, rfl, -, -⟩ := Kd.R_reads ho9
  have BK4m := Aside0.mk (blk_below BK4s.out hb9)
  have HB9 := Aside0.mk (below_then HBs.out HBs.out.size hb9)
  have HO9 := Aside0.mk ho9
  have HSb := Aside0.mk HBs.out.size
  clear ho9 hb9
  (have hg4_0 : w9.cell? ⟨g4, 0, none⟩ = some (.int .u64 0) := (blk_cell BK4m.out 0).trans rfl; have hfg4_0 := blk_frozen BK4m.out 0; have hg4_1 : w9.cell? ⟨g4, 1, none⟩ = some (.int .i64 0) := (blk_cell BK4m.out 1).trans rfl; have hfg4_1 := blk_frozen BK4m.out 1; have hg4_2 : w9.cell? ⟨g4, 2, none⟩ = some (.slice none 0 0) := (blk_cell BK4m.out 2).trans rfl; have hfg4_2 := blk_frozen BK4m.out 2)
  go_wp2_with fail
  have HT := Aside0.mk (show ∀ q, q ∈ 9 :: Kd.string.E → q ≠ 33 by decide)
  have b1 := blk_set BK4m.out 0 (.int .u64 r1)
  have b2 := blk_set b1 1 (.int .i64 r2)
  have b3 := blk_set b2 2 (.slice A9 r3.length c9)
  have q1 := Kd.R_set (Kd.R_set (Kd.R_set HO9.out BK4m.out HT.out 0 (.int .u64 r1)) b1 HT.out 1 (.int .i64 r2)) b2 HT.out 2 (.slice A9 r3.length c9)
  exact bodyPost_ret (results_cell_row rfl _ _ g4 33 #[.int .u64 r1, .int .i64 r2, .slice A9 r3.length c9] (0, 0) _ rfl b3 Try.underlying33 rfl (by kernel_rfl)) rfl ⟨_, rfl, Kd.R_lower q1 HSb.out, below_set (below_set (below_set HB9.out HG4.out) HG4.out) HG4.out⟩
end Go.Proofs.Ytmjhgeinhhhodaa.P
end

section
namespace Go.Proofs.Ytmjhgeinhhhodaa.P
set_option linter.unusedVariables false
set_option linter.unusedSimpArgs false
open Go.RowKit Go.Proofs.YtmjhgeinhhhodaaW.PrintWords Go.Proofs.YtmjhgeinhhhodaaW.PrintLast Go.Proofs.YtmjhgeinhhhodaaW.PrintMore Go.Proofs.Ytmjhgeinhhhodaa.Lib
set_option maxRecDepth 100000 in
set_option maxHeartbeats 400000 in
theorem many_once (x n : Int) (w : World) : Calls Try.prog 47 #[.int .i64 x, .int .u64 n] w fun e w' => e = .returned (.int .i64 x) ∧ Below w.heap.size w w' := by
  go_enter Try.func47, Try.ntmps47
  go_wp2
  go_ret
  exact ⟨rfl, Below.refl _ _⟩
set_option maxRecDepth 100000 in
set_option maxHeartbeats 400000 in
theorem many_sum (x n : Int) (w : World) : Calls Try.prog 49 #[.int .i64 x, .int .u64 n] w fun e w' => e = .returned (.int .i64 (wrap64 (IntKind.u64.wrap (IntKind.u64.wrap x * n)))) ∧ Below w.heap.size w w' := by
  go_enter Try.func49, Try.ntmps49
  go_wp2
  go_ret
  exact ⟨rfl, Below.refl _ _⟩
def manyV (k x n : Int) : Int := if k = 2 then wrap64 (IntKind.u64.wrap (IntKind.u64.wrap x * n)) else x
def agg_Add.f (a0_0 a0_1 a1_0 a1_1 : Int) (l1_2 : List ByteArray) (a2_0 : Int) (l2_1 : List ByteArray) (l2_2 : List Int) (a3 : Int) : Option (Int × Int × List ByteArray) :=
  if a0_0 < 1 ∨ 5 < a0_0 then agg_Merge.f a0_0 a0_1 a1_0 a1_1 l1_2 0 0 []
  else if a3 = 0 then agg_Merge.f a0_0 a0_1 a1_0 a1_1 l1_2 0 0 []
  else if a0_0 = 1 then agg_Merge.f a0_0 a0_1 a1_0 a1_1 l1_2 a3 0 []
  else if a0_0 = 5 then (if 0 ≤ a0_1 ∧ a0_1 < (l2_1.length : Int) then agg_Merge.f a0_0 a0_1 a1_0 a1_1 l1_2 a3 0 [l2_1.getD a0_1.toNat ⟨#[]⟩] else none)
  else if 0 ≤ a0_1 ∧ a0_1 < (l2_2.length : Int) then agg_Merge.f a0_0 a0_1 a1_0 a1_1 l1_2 a3 (manyV a0_0 (rd l2_2 a0_1) a3) [] else none
theorem agg_Add.calls (a0_0 a0_1 a1_0 a1_1 : Int) (A1_2 : Option Addr) (c1_2 : Nat) (l1_2 : List ByteArray) (a2_0 : Int) (A2_1 : Option Addr) (c2_1 : Nat) (l2_1 : List ByteArray) (A2_2 : Option Addr) (c2_2 : Nat) (l2_2 : List Int) (a3 : Int) (r1 r2 : Int) (r3 : List ByteArray) (w : World)
    (hr1_2 : Kd.C Kd.string w A1_2 l1_2.length l1_2) (hc1_2 : l1_2.length ≤ c1_2) (hr2_1 : Kd.C Kd.string w A2_1 l2_1.length l2_1) (hc2_1 : l2_1.length ≤ c2_1) (hr2_2 : Kd.C (Kd.int .i64) w A2_2 l2_2.length l2_2) (hc2_2 : l2_2.length ≤ c2_2)
    (h : agg_Add.f a0_0 a0_1 a1_0 a1_1 l1_2 a2_0 l2_1 l2_2 a3 = some (r1, r2, r3)) :
    Calls Try.prog 19 #[.agg #[.int .i64 a0_0, .int .i64 a0_1], .agg #[.int .u64 a1_0, .int .i64 a1_1, .slice A1_2 l1_2.length c1_2], .agg #[.int .i64 a2_0, .slice A2_1 l2_1.length c2_1, .slice A2_2 l2_2.length c2_2], .int .u64 a3] w
      fun e w' => ∃ v2_ : Value, e = .returned (.agg #[.int .u64 r1, .int .i64 r2, v2_]) ∧ Kd.R Kd.string 9 w' w.heap.size (fun _ => True) v2_ r3 ∧ Below w.heap.size w w' := by
  unfold agg_Add.f at h
  by_cases ho : a0_0 < 1 ∨ 5 < a0_0
  · rw [if_pos ho] at h
    exact add_out _ _ _ _ _ _ _ _ _ _ _ _ _ _ _ _ _ _ _ _ (knows_out ho) rfl rfl rfl rfl hr1_2 hc1_2 _ _ _ h
  · rw [if_neg ho] at h
    have hk : a0_0 = 1 ∨ a0_0 = 2 ∨ a0_0 = 3 ∨ a0_0 = 4 ∨ a0_0 = 5 := by omega
    by_cases hn : a3 = 0
    · rw [if_pos hn] at h
      rcases hk with rfl | rfl | rfl | rfl | rfl <;> exact add_none _ _ _ _ _ _ _ _ _ _ _ _ _ _ _ _ _ _ _ _ (knows_in (by omega) (by omega) rfl) rfl rfl rfl rfl hr1_2 hc1_2 _ _ _ (beq_iff_eq.2 hn) h
    · rw [if_neg hn] at h
      rcases hk with rfl | rfl | rfl | rfl | rfl
      · rw [if_pos rfl] at h
        exact add_count _ _ _ _ _ _ _ _ _ _ _ _ _ _ _ _ _ _ _ _ (knows_in (by omega) (by omega) rfl) rfl rfl rfl rfl hr1_2 hc1_2 _ _ _ (beq_eq_false_iff_ne.2 hn) rfl rfl h
      · rw [if_neg (by omega), if_neg (by omega)] at h
        split at h
        · rename_i hj
          exact add_num _ _ _ _ _ _ _ _ _ _ _ _ _ _ _ _ _ _ _ _ (knows_in (by omega) (by omega) rfl) rfl rfl rfl rfl hr1_2 hc1_2 _ _ _ (beq_eq_false_iff_ne.2 hn) rfl _ rfl hj.1 hj.2 hr2_2 _ Try.func49 (by kernel_rfl) (by kernel_rfl) _ ⟨fun u => many_sum _ _ u⟩ h
        · cases h
      · rw [if_neg (by omega), if_neg (by omega)] at h
        split at h
        · rename_i hj
          exact add_num _ _ _ _ _ _ _ _ _ _ _ _ _ _ _ _ _ _ _ _ (knows_in (by omega) (by omega) rfl) rfl rfl rfl rfl hr1_2 hc1_2 _ _ _ (beq_eq_false_iff_ne.2 hn) rfl _ rfl hj.1 hj.2 hr2_2 _ Try.func47 (by kernel_rfl) (by kernel_rfl) _ ⟨fun u => many_once _ _ u⟩ h
        · cases h
      · rw [if_neg (by omega), if_neg (by omega)] at h
        split at h
        · rename_i hj
          exact add_num _ _ _ _ _ _ _ _ _ _ _ _ _ _ _ _ _ _ _ _ (knows_in (by omega) (by omega) rfl) rfl rfl rfl rfl hr1_2 hc1_2 _ _ _ (beq_eq_false_iff_ne.2 hn) rfl _ rfl hj.1 hj.2 hr2_2 _ Try.func47 (by kernel_rfl) (by kernel_rfl) _ ⟨fun u => many_once _ _ u⟩ h
        · cases h
      · rw [if_neg (by omega), if_pos rfl] at h
        split at h
        · rename_i hj
          exact add_dim _ _ _ _ _ _ _ _ _ _ _ _ _ _ _ _ _ _ _ _ (knows_in (by omega) (by omega) rfl) rfl rfl rfl rfl hr1_2 hc1_2 _ _ _ (beq_eq_false_iff_ne.2 hn) rfl rfl hj.1 hj.2 hr2_1 h
        · cases h
end Go.Proofs.Ytmjhgeinhhhodaa.P
end

section
namespace Go.Proofs.Ytmjhgeinhhhodaa.P
open Go.RowKit Go.Proofs.YtmjhgeinhhhodaaW.PrintWords Go.Proofs.YtmjhgeinhhhodaaW.PrintLast Go.Proofs.YtmjhgeinhhhodaaW.PrintMore
attribute [local go_sem] max2_int min2_int max_two min_two max_three min_three max_four min_four   -- for this text's walks alone
set_option linter.unusedVariables false
set_option linter.unusedSimpArgs false
open Go.Proofs.Ytmjhgeinhhhodaa.Ext (q1_ q2_ q3_ bk_ bw_ sz_ ne_ bx_)
attribute [local go_sem high] Go.Proofs.Ytmjhgeinhhhodaa.Ext.gtr_str Go.Proofs.Ytmjhgeinhhhodaa.Ext.leq_str Go.Proofs.Ytmjhgeinhhhodaa.Ext.geq_str
def gristmilllaw06_of.l0 : Nat → List (S44) → Int → Int → Int → Int → Int → List ByteArray → Option (Int × Int × List ByteArray)
 | 0, _, _, _, _, _, _, _ => none
 | k + 1, x1, x6, x144000, x144001, x151000, x151001, x151002 => if x6 < (x1.length : Int) then (if 0 ≤ x6 then ((agg_Add.f x144000 x144001 x151000 x151001 x151002 ((rd_T44 x1 x6).f0.f0) ((rd_T44 x1 x6).f0.f1) ((rd_T44 x1 x6).f0.f2) ((rd_T44 x1 x6).f1)).bind fun bt153 => (gristmilllaw06_of.l0 k x1 (wrap64 (x6 + 1)) x144000 x144001 bt153.1 bt153.2.1 bt153.2.2)) else (none)) else (some (x151000, x151001, x151002))
def gristmilllaw06_of.f (k : Nat) (a0_0 : Int) (a0_1 : Int) (l1 : List (S44)) : Option (Int × Int × List ByteArray) := (agg_Start.f a0_0 a0_1).bind fun bt145 => (gristmilllaw06_of.l0 k l1 0 a0_0 a0_1 bt145.1 bt145.2.1 bt145.2.2)
def gristmilllaw06_of.T5 : Bool × List (List Nat × List Nat) := (true, [([], []), ([], []), ([], []), ([], []), ([2, 3], [2, 3]), ([4], [4]), ([5], [5]), ([], []), ([], []), ([7, 8], [7, 8]), ([9], [9]), ([10], [10]), ([0, 1, 6, 11], [0, 1, 6, 11]), ([12, 12, 0, 1, 2, 3, 4, 5, 6, 7, 8, 9, 10, 11, 12], [12])])
def gristmilllaw06_of.B5 : List Nat := [0, 0, 0, 0, 12, 28, 60, 0, 0, 384, 896, 1920, 4095, 8191]
theorem gristmilllaw06_of.tab5 : rtab .any (opsOf Try.f12 5) = gristmilllaw06_of.T5 := by kernel_rfl
theorem gristmilllaw06_of.bits5 : waitsOk gristmilllaw06_of.T5.2 gristmilllaw06_of.B5 = true := by kernel_rfl
set_option maxHeartbeats 8000000 in
set_option maxRecDepth 100000 in
theorem gristmilllaw06_of.calls (k : Nat) (a0_0 : Int) (a0_1 : Int) (A1 : Option Addr) (c1 : Nat) (l1 : List (S44)) (r1 : Int) (r2 : Int) (r3 : List ByteArray) (w : World) (hr1 : Kd.C k44 w A1 l1.length l1) (hc1 : l1.length ≤ c1) (h : gristmilllaw06_of.f k a0_0 a0_1 l1 = some (r1, r2, r3)) :
  Calls Try.prog 12 #[.agg #[.int .i64 a0_0, .int .i64 a0_1], .slice A1 l1.length c1] w fun e w' => ∃ v2_ : Value, e = .returned (.agg #[.int .u64 r1, .int .i64 r2, v2_]) ∧ Kd.R Kd.string 9 w' w.heap.size (fun _ => True) v2_ r3 ∧ Below w.heap.size w w' := by
 have hu23 := Try.underlying23
 have hu33 := Try.underlying33
 have hu42 := Try.underlying42
 have HR1 := Aside0.mk hr1
 have HC1 := Aside0.mk hc1
 clear hr1 hc1
 have HB := Aside0.mk (Below.refl w.heap.size w)
 have H : ((agg_Start.f a0_0 a0_1).bind fun bt145 => (gristmilllaw06_of.l0 k l1 0 a0_0 a0_1 bt145.1 bt145.2.1 bt145.2.2)) = some (r1, r2, r3) := h
 clear h
 replace H := Option.bind_eq_some_iff.mp H
 obtain ⟨⟨t145, t146, t147⟩, A30, H⟩ := H
 replace H : (gristmilllaw06_of.l0 k l1 0 a0_0 a0_1 t145 t146 t147) = some (r1, r2, r3) := H
 have A3 := Aside0.mk A30
 clear A30
 have H' := Aside0.mk H
 clear H
 go_enter Try.func12, Try.ntmps12
 go_wp2_with (first | ((with_reducible refine gate_dst (N := 2) rfl ?_); refine bx_ (N := 2) (cs := #[.int .i64 a0_0, .int .i64 a0_1]) (t := 23) ?_; intro gb143 hg w4 hbox hb; have n0_ := Aside0.mk (below_step (bw_ HB.out) hb); have n1_ := Aside0.mk (hbox); have n2_ := Aside0.mk (sz_ hg (bw_ HB.out)); have n3_ := n2_; clear HB; have HB := n0_; have BK143 := n1_; have GW143 := n2_; have GE143 := n3_; clear n0_ n1_ n2_ n3_; clear hb hbox hg) | ((with_reducible refine gate_dst (N := 4) rfl ?_); refine bx_ (N := 4) (cs := #[.int .u64 0, .int .i64 0, .slice none 0 0]) (t := 33) ?_; intro gb144 hg w5 hbox hb; have n0_ := Aside0.mk (blk_below (bk_ BK143.out) hb); have n1_ := Aside0.mk (below_step (bw_ HB.out) hb); have n2_ := Aside0.mk (hbox); have n3_ := Aside0.mk (sz_ hg (bw_ HB.out)); have n4_ := n3_; have n5_ := Aside0.mk (ne_ hg (blk_lt (bk_ BK143.out))); have n6_ := Aside0.mk n5_.out.symm; clear BK143 HB; have BK143 := n0_; have HB := n1_; have BK144 := n2_; have GW144 := n3_; have GE144 := n4_; have NB143_144 := n5_; have NB144_143 := n6_; clear n0_ n1_ n2_ n3_ n4_ n5_ n6_; clear hb hbox hg; have hnb6 := NB143_144.out; have hnc6 := NB144_143.out; have hcz7_0 : w5.cell? ⟨gb143, 0, none⟩ = some (.int .i64 a0_0) := (blk_cell BK143.out 0).trans rfl; have hcz7_1 : w5.cell? ⟨gb143, 1, none⟩ = some (.int .i64 a0_1) := (blk_cell BK143.out 1).trans rfl; have hfz7_0 := blk_frozen BK143.out 0; have hfz7_1 := blk_frozen BK143.out 1) | ((with_reducible refine gate_callee (f := 18) rfl ?_); refine goesL_ (some 8) rfl rfl Try.func18 (by kernel_rfl) rfl #[.agg #[.int .i64 a0_0, .int .i64 a0_1]] rfl (by (try simp only [List.map_toArray, List.map_cons, List.map_nil]); first | done | rfl | (simp only [List.length_drop, List.length_take]; rfl)) ?_; (with_reducible refine (agg_Start.calls a0_0 a0_1 t145 t146 t147 _ A3.out).mono ?_); rintro e w8 ⟨v148, rfl, ho0, hb⟩; refine ⟨_, rfl, ?_⟩; have n0_ := Aside0.mk (Kd.R_lower ho0 (below_size (bw_ HB.out))); have n1_ := Aside0.mk (blk_below (bk_ BK143.out) hb); have n2_ := Aside0.mk (blk_below (bk_ BK144.out) hb); have n3_ := Aside0.mk (below_step (bw_ HB.out) hb); clear BK143 BK144 HB; have HO149 := n0_; have BK143 := n1_; have BK144 := n2_; have HB := n3_; clear n0_ n1_ n2_ n3_; (try clear hb); (try clear hb2); (try clear hk); (try clear hi); (try clear ho0)) | ((with_reducible refine gate_dst (N := 5) rfl ?_); refine bx_ (N := 5) (cs := #[.int .u64 0, .int .i64 0, .slice none 0 0]) (t := 33) ?_; intro gb150 hg w9 hbox hb; have n0_ := Aside0.mk (Kd.R_below (by (with_reducible repeat (first | apply Kd.R_alloc | apply Kd.R_drewN | apply Kd.R_drew)); exact HO149.out) hb); have n1_ := Aside0.mk (blk_below (bk_ BK143.out) hb); have n2_ := Aside0.mk (blk_below (bk_ BK144.out) hb); have n3_ := Aside0.mk (below_step (bw_ HB.out) hb); have n4_ := Aside0.mk (hbox); have n5_ := Aside0.mk (sz_ hg (bw_ HB.out)); have n6_ := n5_; have n7_ := Aside0.mk (ne_ hg (blk_lt (bk_ BK143.out))); have n8_ := Aside0.mk n7_.out.symm; have n9_ := Aside0.mk (ne_ hg (blk_lt (bk_ BK144.out))); have n10_ := Aside0.mk n9_.out.symm; clear HO149 BK143 BK144 HB; have HO149 := n0_; have BK143 := n1_; have BK144 := n2_; have HB := n3_; have BK150 := n4_; have GW150 := n5_; have GE150 := n6_; have NB143_150 := n7_; have NB150_143 := n8_; have NB144_150 := n9_; have NB150_144 := n10_; clear n0_ n1_ n2_ n3_ n4_ n5_ n6_ n7_ n8_ n9_ n10_; clear hb hbox hg; have hnb10 := NB150_143.out; have hnc10 := NB143_150.out; have hnb11 := NB150_144.out; have hnc11 := NB144_150.out; have hcz12_0 : w9.cell? ⟨gb150, 0, none⟩ = some (.int .u64 0) := (blk_cell BK150.out 0).trans rfl; have hcz12_1 : w9.cell? ⟨gb150, 1, none⟩ = some (.int .i64 0) := (blk_cell BK150.out 1).trans rfl; have hcz12_2 : w9.cell? ⟨gb150, 2, none⟩ = some (.slice none 0 0) := (blk_cell BK150.out 2).trans rfl; have hfz12_0 := blk_frozen BK150.out 0; have hfz12_1 := blk_frozen BK150.out 1; have hfz12_2 := blk_frozen BK150.out 2; obtain ⟨Ao13, co13, eo13⟩ := Kd.R_slice HO149.out; subst eo13))
 go_loopg [6] k (fun kq v6 w' => ∃ (x6_1 : Int) (x151000_1 : Int) (x151001_1 : Int) (x151002_1 : List ByteArray) (u151002 : Value), v6 = .int .i64 x6_1 ∧ Aside0 (gristmilllaw06_of.l0 kq l1 x6_1 a0_0 a0_1 x151000_1 x151001_1 x151002_1 = some (r1, r2, r3)) ∧ Aside0 (kq ≤ k) ∧ Aside0 (Kd.R Kd.string 9 w' w.heap.size (fun _ => True) u151002 x151002_1) ∧ Aside0 (w'.heap[gb143]? = some (.cells #[.int .i64 a0_0, .int .i64 a0_1] 23 (0, 0))) ∧ Aside0 (w'.heap[gb144]? = some (.cells #[.int .u64 0, .int .i64 0, (.slice none 0 0)] 33 (0, 0))) ∧ Aside0 (w'.heap[gb150]? = some (.cells #[.int .u64 x151000_1, .int .i64 x151001_1, u151002] 33 (0, 0))) ∧ Aside0 (Below w.heap.size w w'))
 case atStart => exact ⟨(0), (t145), (t146), (t147), (.slice Ao13 t147.length co13), (by first | rfl | (simp; done) | (simp [*]; done)), H', ⟨Nat.le_refl _⟩, ⟨by (with_reducible repeat (first | apply Kd.R_alloc | apply Kd.R_drewN | apply Kd.R_drew)); exact Kd.R_mono (Kd.R_far (p := ⟨gb150, 2, none⟩) (Kd.R_far (p := ⟨gb150, 1, none⟩) (Kd.R_far (p := ⟨gb150, 0, none⟩) (Kd.R_types HO149.out BK150.out (by decide)) (fun _ hk => hk.2) (.int .u64 t145)) (fun _ hk => hk.2) (.int .i64 t146)) (fun _ hk => hk.2) (.slice Ao13 t147.length co13)) (fun _ hk => trivial)⟩, ⟨by (with_reducible repeat (first | refine blk_drewN ?_ _ | refine blk_drew ?_ | refine blk_alloc ?_ _)); refine blk_far ?_ NB143_150.out _; (with_reducible repeat (first | refine blk_drewN ?_ _ | refine blk_drew ?_ | refine blk_alloc ?_ _)); refine blk_far ?_ NB143_150.out _; (with_reducible repeat (first | refine blk_drewN ?_ _ | refine blk_drew ?_ | refine blk_alloc ?_ _)); refine blk_far ?_ NB143_150.out _; (with_reducible repeat (first | refine blk_drewN ?_ _ | refine blk_drew ?_ | refine blk_alloc ?_ _)); exact BK143.out⟩, ⟨by (with_reducible repeat (first | refine blk_drewN ?_ _ | refine blk_drew ?_ | refine blk_alloc ?_ _)); refine blk_far ?_ NB144_150.out _; (with_reducible repeat (first | refine blk_drewN ?_ _ | refine blk_drew ?_ | refine blk_alloc ?_ _)); refine blk_far ?_ NB144_150.out _; (with_reducible repeat (first | refine blk_drewN ?_ _ | refine blk_drew ?_ | refine blk_alloc ?_ _)); refine blk_far ?_ NB144_150.out _; (with_reducible repeat (first | refine blk_drewN ?_ _ | refine blk_drew ?_ | refine blk_alloc ?_ _)); exact BK144.out⟩, ⟨by (with_reducible repeat (first | refine blk_drewN ?_ _ | refine blk_drew ?_ | refine blk_alloc ?_ _)); refine blk_put (cs := #[.int .u64 t145, .int .i64 t146, .slice none 0 0]) ?_ 2 _ rfl; (with_reducible repeat (first | refine blk_drewN ?_ _ | refine blk_drew ?_ | refine blk_alloc ?_ _)); refine blk_put (cs := #[.int .u64 t145, .int .i64 0, .slice none 0 0]) ?_ 1 _ rfl; (with_reducible repeat (first | refine blk_drewN ?_ _ | refine blk_drew ?_ | refine blk_alloc ?_ _)); refine blk_put (cs := #[.int .u64 0, .int .i64 0, .slice none 0 0]) ?_ 0 _ rfl; (with_reducible repeat (first | refine blk_drewN ?_ _ | refine blk_drew ?_ | refine blk_alloc ?_ _)); exact BK150.out⟩, ⟨by repeat (first | (with_reducible first | exact HB.out | apply below_alloc | apply pw_below_drewN | apply below_drew1 | refine below_set ?_ GE143.out | refine below_set ?_ GE144.out | refine below_set ?_ GE150.out) | exact HB.out)⟩⟩
 case round =>
  clear H'
  try clear c1
  try clear p2
  try clear c6
  try clear c10
  try clear c11
  try clear c12
  try clear hcz12_0
  try clear hcz12_1
  try clear hcz12_2
  try clear hcz7_0
  try clear hcz7_1
  try clear hfz12_0
  try clear hfz12_1
  try clear hfz12_2
  try clear hfz7_0
  try clear hfz7_1
  obtain ⟨x6_1, x151000_1, x151001_1, x151002_1, u151002, rfl, HA, HK1, HO_151002, BK143, BK144, BK150, HB⟩ := hrel
  cases gk with
  | zero => exact absurd HA.out (by simp [gristmilllaw06_of.l0])
  | succ k1 =>
   have H := HA.out
   clear HA
   simp only [gristmilllaw06_of.l0] at H
   by_cases c14 : x6_1 < (l1.length : Int)
   ·rw [if_pos c14] at H
    have c14b0 : decide (x6_1 < (l1.length : Int)) = true := decide_eq_true c14
    clear c14
    by_cases c15 : 0 ≤ x6_1
    ·rw [if_pos c15] at H
     have c15b0 : decide (0 ≤ x6_1) = true := decide_eq_true c15
     clear c15
     replace H := Option.bind_eq_some_iff.mp H
     obtain ⟨⟨t153, t154, t155⟩, A160, H⟩ := H
     replace H : (gristmilllaw06_of.l0 k1 l1 (wrap64 (x6_1 + 1)) a0_0 a0_1 t153 t154 t155) = some (r1, r2, r3) := H
     have A16 := Aside0.mk A160
     clear A160
     have H' := Aside0.mk H
     clear H
     try go_wp2
     have n0_ := Aside0.mk (Kd.R_drew HO_151002.out)
     have n1_ := Aside0.mk (blk_drew BK143.out)
     have n2_ := Aside0.mk (blk_drew BK144.out)
     have n3_ := Aside0.mk (blk_drew BK150.out)
     have n4_ := Aside0.mk (below_drew1 HB.out)
     clear HO_151002
     clear BK143
     clear BK144
     clear BK150
     clear HB
     have HO_151002 := n0_
     have BK143 := n1_
     have BK144 := n2_
     have BK150 := n3_
     have HB := n4_
     clear n0_ n1_ n2_ n3_ n4_
     have p151 : 0 ≤ (x6_1 : Int) := of_decide_eq_true (by assumption)
     have q151 : x6_1 < (l1.length : Int) := of_decide_eq_true (by assumption)
     obtain ⟨ad151, A151_1, c151_1, A151_2, c151_2, e151, hx151_0, hx151_1, hx151_2, hx151_3, hl151_1, hi151_1, hl151_2, hi151_2⟩ := at_T44 HR1.out x6_1 p151 q151
     have hw151_3 := hx151_3
     have hw151_2 := hx151_2
     have hw151_1 := hx151_1
     have hw151_0 := hx151_0
     cases e151
     replace hx151_0 := pw_cell_below HB.out hx151_0
     replace hx151_1 := pw_cell_below HB.out hx151_1
     replace hx151_2 := pw_cell_below HB.out hx151_2
     replace hx151_3 := pw_cell_below HB.out hx151_3
     have HR151_1 := Aside0.mk hi151_1
     have HC151_1 := Aside0.mk hl151_1
     clear hi151_1 hl151_1
     have HR151_2 := Aside0.mk hi151_2
     have HC151_2 := Aside0.mk hl151_2
     clear hi151_2 hl151_2
     replace p151 := eq_true p151
     replace q151 := eq_true q151
     have p152 : 0 ≤ (x6_1 : Int) := of_decide_eq_true (by assumption)
     have q152 : x6_1 < (l1.length : Int) := of_decide_eq_true (by assumption)
     obtain ⟨ad152, A152_1, c152_1, A152_2, c152_2, e152, hx152_0, hx152_1, hx152_2, hx152_3, hl152_1, hi152_1, hl152_2, hi152_2⟩ := at_T44 HR1.out x6_1 p152 q152
     have hw152_3 := hx152_3
     have hw152_2 := hx152_2
     have hw152_1 := hx152_1
     have hw152_0 := hx152_0
     obtain rfl : ad151 = ad152 := (by injection e152)
     replace hx152_0 := pw_cell_below HB.out hx152_0
     replace hx152_1 := pw_cell_below HB.out hx152_1
     replace hx152_2 := pw_cell_below HB.out hx152_2
     replace hx152_3 := pw_cell_below HB.out hx152_3
     have HR152_1 := Aside0.mk hi152_1
     have HC152_1 := Aside0.mk hl152_1
     clear hi152_1 hl152_1
     have HR152_2 := Aside0.mk hi152_2
     have HC152_2 := Aside0.mk hl152_2
     clear hi152_2 hl152_2
     replace p152 := eq_true p152
     replace q152 := eq_true q152
     have ea_ := Option.some.inj (hx151_1.symm.trans hx152_1)
     injection ea_ with ea_ en_ ec_
     subst ea_
     subst ec_
     clear en_
     have ea_ := Option.some.inj (hx151_2.symm.trans hx152_2)
     injection ea_ with ea_ en_ ec_
     subst ea_
     subst ec_
     clear en_
     obtain ⟨Ao18, co18, eo18⟩ := Kd.R_slice HO_151002.out
     (first | subst eo18 | (injection eo18 with f1_ f2_ f3_; have f4_ := f1_.symm; have f5_ := f3_.symm; clear f1_ f2_ f3_; subst f4_; subst f5_))
     refine start_ (n := 14) (S := fun w' => w'.cell? ⟨gb143, 0, none⟩ = some (.int .i64 a0_0) ∧ w'.cell? ⟨gb143, 1, none⟩ = some (.int .i64 a0_1) ∧ w'.cell? ⟨gb150, 0, none⟩ = some (.int .u64 x151000_1) ∧ w'.cell? ⟨gb150, 1, none⟩ = some (.int .i64 x151001_1) ∧ w'.cell? ⟨gb150, 2, none⟩ = some (.slice Ao18 x151002_1.length co18) ∧ w'.cell? (ad151.add ((x6_1).toNat * 4)) = some (.int .i64 ((rd_T44 l1 x6_1).f0.f0)) ∧ w'.cell? ⟨(ad151.add ((x6_1).toNat * 4)).block, (ad151.add ((x6_1).toNat * 4)).off + 1, none⟩ = some (.slice A151_1 ((rd_T44 l1 x6_1).f0.f1).length c151_1) ∧ w'.cell? ⟨(ad151.add ((x6_1).toNat * 4)).block, (ad151.add ((x6_1).toNat * 4)).off + 2, none⟩ = some (.slice A151_2 ((rd_T44 l1 x6_1).f0.f2).length c151_2) ∧ w'.cell? ⟨(ad151.add ((x6_1).toNat * 4)).block, (ad151.add ((x6_1).toNat * 4)).off + 3, none⟩ = some (.int .u64 ((rd_T44 l1 x6_1).f1)) ∧ w'.cell? (ad151.add ((x6_1).toNat * 4)) = some (.int .i64 ((rd_T44 l1 x6_1).f0.f0)) ∧ w'.cell? ⟨(ad151.add ((x6_1).toNat * 4)).block, (ad151.add ((x6_1).toNat * 4)).off + 1, none⟩ = some (.slice A151_1 ((rd_T44 l1 x6_1).f0.f1).length c151_1) ∧ w'.cell? ⟨(ad151.add ((x6_1).toNat * 4)).block, (ad151.add ((x6_1).toNat * 4)).off + 2, none⟩ = some (.slice A151_2 ((rd_T44 l1 x6_1).f0.f2).length c151_2) ∧ w'.cell? ⟨(ad151.add ((x6_1).toNat * 4)).block, (ad151.add ((x6_1).toNat * 4)).off + 3, none⟩ = some (.int .u64 ((rd_T44 l1 x6_1).f1))) (ds := [13]) #[false, false, false, false, false, false, false, false, false, false, false, false, false, false] (by kernel_rfl) rfl rfl ⟨(blk_cell BK143.out 0).trans rfl, (blk_cell BK143.out 1).trans rfl, (blk_cell BK150.out 0).trans rfl, (blk_cell BK150.out 1).trans rfl, (blk_cell BK150.out 2).trans rfl, (pw_cell_below HB.out hw151_0), (pw_cell_below HB.out hw151_1), (pw_cell_below HB.out hw151_2), (pw_cell_below HB.out hw151_3), (pw_cell_below HB.out hw152_0), (pw_cell_below HB.out hw152_1), (pw_cell_below HB.out hw152_2), (pw_cell_below HB.out hw152_3)⟩ (fun hHeld => ?_); refine with_tabW gristmilllaw06_of.tab5 gristmilllaw06_of.bits5 (fun HT_ HW_ => ?_)
     generalize wr.drew = w17 at HO_151002 BK143 BK144 BK150 HB HR151_1 HR151_2 HR152_1 HR152_2 hx151_0 hx151_1 hx151_2 hx151_3 hx152_0 hx152_1 hx152_2 hx152_3 hHeld ⊢
     refine pure_ (i := 2) (N := some 17) (v := ?_) (a' := ?_) #[false, false, true, false, false, false, false, false, false, false, false, false, false, false] rfl rfl (any_of HT_.out (by kernel_rfl)) (fun _ _ _ h => h) (Or.inl ⟨by rfl, ?_⟩) ?_ ?_
     rotate_left
     ·intro w'
      go_simp
      with_reducible rfl
     rotate_left
     ·simp only [Act.put, q1_, q2_, q3_, i64_w, i32_w]
      rfl
     refine pure_ (i := 3) (N := some 18) (v := ?_) (a' := ?_) #[false, false, true, true, false, false, false, false, false, false, false, false, false, false] rfl rfl (any_of HT_.out (by kernel_rfl)) (fun _ _ _ h => h) (Or.inl ⟨by rfl, ?_⟩) ?_ ?_
     rotate_left
     ·intro w'
      go_simp
      with_reducible rfl
     rotate_left
     ·simp only [Act.put, q1_, q2_, q3_, i64_w, i32_w]
      rfl
     refine pure_ (i := 4) (N := some 19) (v := ?_) (a' := ?_) #[false, false, true, true, true, false, false, false, false, false, false, false, false, false] rfl rfl (any_of HT_.out (by kernel_rfl)) (fun _ _ _ h => h) (Or.inl ⟨by rfl, ?_⟩) ?_ ?_
     rotate_left
     ·intro w'
      go_simp
      with_reducible rfl
     rotate_left
     ·simp only [Act.put, q1_, q2_, q3_, i64_w, i32_w]
      rfl
     refine pure_ (i := 5) (N := some 20) (v := ?_) (a' := ?_) #[false, false, true, true, true, true, false, false, false, false, false, false, false, false] rfl rfl (any_of HT_.out (by kernel_rfl)) (fun _ _ _ h => h) (Or.inl ⟨by rfl, ?_⟩) ?_ ?_
     rotate_left
     ·intro w'
      go_simp
      with_reducible rfl
     rotate_left
     ·simp only [Act.put, q1_, q2_, q3_, i64_w, i32_w]
      rfl
     refine pure_ (i := 7) (N := some 22) (v := ?_) (a' := ?_) #[false, false, true, true, true, true, false, true, false, false, false, false, false, false] rfl rfl (any_of HT_.out (by kernel_rfl)) (fun _ _ _ h => h) (Or.inl ⟨by rfl, ?_⟩) ?_ ?_
     rotate_left
     ·intro w'
      go_simp
      with_reducible rfl
     rotate_left
     ·simp only [Act.put, q1_, q2_, q3_, i64_w, i32_w]
      rfl
     refine pure_ (i := 8) (N := some 23) (v := ?_) (a' := ?_) #[false, false, true, true, true, true, false, true, true, false, false, false, false, false] rfl rfl (any_of HT_.out (by kernel_rfl)) (fun _ _ _ h => h) (Or.inl ⟨by rfl, ?_⟩) ?_ ?_
     rotate_left
     ·intro w'
      go_simp
      with_reducible rfl
     rotate_left
     ·simp only [Act.put, q1_, q2_, q3_, i64_w, i32_w]
      rfl
     refine pure_ (i := 9) (N := some 24) (v := ?_) (a' := ?_) #[false, false, true, true, true, true, false, true, true, true, false, false, false, false] rfl rfl (any_of HT_.out (by kernel_rfl)) (fun _ _ _ h => h) (Or.inl ⟨by rfl, ?_⟩) ?_ ?_
     rotate_left
     ·intro w'
      go_simp
      with_reducible rfl
     rotate_left
     ·simp only [Act.put, q1_, q2_, q3_, i64_w, i32_w]
      rfl
     refine pure_ (i := 10) (N := some 25) (v := ?_) (a' := ?_) #[false, false, true, true, true, true, false, true, true, true, true, false, false, false] rfl rfl (any_of HT_.out (by kernel_rfl)) (fun _ _ _ h => h) (Or.inl ⟨by rfl, ?_⟩) ?_ ?_
     rotate_left
     ·intro w'
      go_simp
      with_reducible rfl
     rotate_left
     ·simp only [Act.put, q1_, q2_, q3_, i64_w, i32_w]
      rfl
     refine take_ (i := 0) (N := some 15) (v := ?_) (a' := ?_) #[true, false, true, true, true, true, false, true, true, true, true, false, false, false] rfl rfl (take_ofW HT_.out HW_.out (by kernel_rfl)) (fun _ _ _ h => h) (Or.inl ⟨by rfl, ?_⟩) hHeld ?_ ?_
     rotate_left
     ·rintro w' ⟨s0, s1, s2, s3, s4, s5, s6, s7, s8, s9, s10, s11, s12⟩
      go_simp
      with_reducible rfl
     rotate_left
     ·simp only [Act.put, q1_, q2_, q3_, i64_w, i32_w]
      rfl
     refine take_ (i := 1) (N := some 16) (v := ?_) (a' := ?_) #[true, true, true, true, true, true, false, true, true, true, true, false, false, false] rfl rfl (take_ofW HT_.out HW_.out (by kernel_rfl)) (fun _ _ _ h => h) (Or.inl ⟨by rfl, ?_⟩) hHeld ?_ ?_
     rotate_left
     ·rintro w' ⟨s0, s1, s2, s3, s4, s5, s6, s7, s8, s9, s10, s11, s12⟩
      go_simp
      with_reducible rfl
     rotate_left
     ·simp only [Act.put, q1_, q2_, q3_, i64_w, i32_w]
      rfl
     refine take_ (i := 6) (N := some 21) (v := ?_) (a' := ?_) #[true, true, true, true, true, true, true, true, true, true, true, false, false, false] rfl rfl (take_ofW HT_.out HW_.out (by kernel_rfl)) (fun _ _ _ h => h) (Or.inl ⟨by rfl, ?_⟩) hHeld ?_ ?_
     rotate_left
     ·rintro w' ⟨s0, s1, s2, s3, s4, s5, s6, s7, s8, s9, s10, s11, s12⟩
      go_simp
      with_reducible rfl
     rotate_left
     ·simp only [Act.put, q1_, q2_, q3_, i64_w, i32_w]
      rfl
     refine take_ (i := 11) (N := some 26) (v := ?_) (a' := ?_) #[true, true, true, true, true, true, true, true, true, true, true, true, false, false] rfl rfl (take_ofW HT_.out HW_.out (by kernel_rfl)) (fun _ _ _ h => h) (Or.inl ⟨by rfl, ?_⟩) hHeld ?_ ?_
     rotate_left
     ·rintro w' ⟨s0, s1, s2, s3, s4, s5, s6, s7, s8, s9, s10, s11, s12⟩
      go_simp
      with_reducible rfl
     rotate_left
     ·simp only [Act.put, q1_, q2_, q3_, i64_w, i32_w]
      rfl
     refine one_ (i := 12) (N := some 27) #[true, true, true, true, true, true, true, true, true, true, true, true, true, false] rfl rfl (one_of HT_.out (by kernel_rfl)) (by decide) (fun K hK => ?_)
     refine goes_ Try.func19 (by kernel_rfl) rfl #[.agg #[.int .i64 a0_0, .int .i64 a0_1], .agg #[.int .u64 x151000_1, .int .i64 x151001_1, .slice Ao18 x151002_1.length co18], .agg #[.int .i64 ((rd_T44 l1 x6_1).f0.f0), .slice A151_1 ((rd_T44 l1 x6_1).f0.f1).length c151_1, .slice A151_2 ((rd_T44 l1 x6_1).f0.f2).length c151_2], .int .u64 ((rd_T44 l1 x6_1).f1)] (by rfl) rfl rfl (by (try simp only [List.map_toArray, List.map_cons, List.map_nil]); first | done | rfl | (simp only [List.length_drop, List.length_take]; rfl)) ?_
     with_reducible refine (agg_Add.calls a0_0 a0_1 x151000_1 x151001_1 _ _ x151002_1 ((rd_T44 l1 x6_1).f0.f0) _ _ ((rd_T44 l1 x6_1).f0.f1) _ _ ((rd_T44 l1 x6_1).f0.f2) ((rd_T44 l1 x6_1).f1) t153 t154 t155 _ ?side1 ?side2 ?side3 ?side4 ?side5 ?side6 A16.out).mono ?_
     (case side1 => repeat (first | exact (Kd.R_reads' HO_151002.out).2.2 | (with_reducible refine Kd.C_alloc ?_ _) | (with_reducible refine Kd.C_drewN ?_ _) | (with_reducible refine Kd.C_drew ?_)))
     (case side2 => exact (Kd.R_reads' HO_151002.out).2.1)
     (case side3 => repeat (first | exact (Kd.C_below HR151_1.out HB.out) | (with_reducible refine Kd.C_alloc ?_ _) | (with_reducible refine Kd.C_drewN ?_ _) | (with_reducible refine Kd.C_drew ?_)))
     (case side4 => exact HC151_1.out)
     (case side5 => repeat (first | exact (Kd.C_below HR151_2.out HB.out) | (with_reducible refine Kd.C_alloc ?_ _) | (with_reducible refine Kd.C_drewN ?_ _) | (with_reducible refine Kd.C_drew ?_)))
     (case side6 => exact HC151_2.out)
     rintro e w19 ⟨v156, rfl, ho0, hb⟩
     refine ⟨_, rfl, ?_⟩
     have n0_ := Aside0.mk (Kd.R_elder' (by (with_reducible repeat (first | apply Kd.R_alloc | apply Kd.R_drewN | apply Kd.R_drew)); exact HO_151002.out) (Kd.R_base ho0) hb)
     have n1_ := Aside0.mk (Kd.R_lower (Kd.R_new' ho0 (Kd.R_lt (by (with_reducible repeat (first | apply Kd.R_alloc | apply Kd.R_drewN | apply Kd.R_drew)); exact HO_151002.out))) (below_size (bw_ HB.out)))
     have n2_ := Aside0.mk (blk_below (bk_ BK143.out) hb)
     have n3_ := Aside0.mk (blk_below (bk_ BK144.out) hb)
     have n4_ := Aside0.mk (blk_below (bk_ BK150.out) hb)
     have n5_ := Aside0.mk (below_step (bw_ HB.out) hb)
     clear HO_151002
     clear BK143
     clear BK144
     clear BK150
     clear HB
     have HO_151002 := n0_
     have HO157 := n1_
     have BK143 := n2_
     have BK144 := n3_
     have BK150 := n4_
     have HB := n5_
     clear n0_ n1_ n2_ n3_ n4_ n5_
     (try clear hb)
     (try clear hb2)
     (try clear hk)
     (try clear hi)
     (try clear ho0)
     obtain ⟨Ao22, co22, eo22⟩ := Kd.R_slice HO157.out
     (first | subst eo22 | (injection eo22 with f1_ f2_ f3_; have f4_ := f1_.symm; have f5_ := f3_.symm; clear f1_ f2_ f3_; subst f4_; subst f5_))
     refine hK.out _ _ ⟨(blk_cell BK143.out 0).trans rfl, (blk_cell BK143.out 1).trans rfl, (blk_cell BK150.out 0).trans rfl, (blk_cell BK150.out 1).trans rfl, (blk_cell BK150.out 2).trans rfl, (pw_cell_below HB.out hw151_0), (pw_cell_below HB.out hw151_1), (pw_cell_below HB.out hw151_2), (pw_cell_below HB.out hw151_3), (pw_cell_below HB.out hw152_0), (pw_cell_below HB.out hw152_1), (pw_cell_below HB.out hw152_2), (pw_cell_below HB.out hw152_3)⟩ (fun hHeld => ?_)
     clear hK K
     refine norm_ (a' := ?_) ?_ ?_
     rotate_left
     ·show Act.put _ (some 27) _ = _
      simp only [Act.put, q1_, q2_, q3_, i64_w, i32_w]
      rfl
     refine last_ (i := 13) (N := none) #[true, true, true, true, true, true, true, true, true, true, true, true, true, true] rfl rfl (one_of HT_.out (by kernel_rfl)) (by decide) (fun K hK => ?_)
     have hs20 : w19.cell? ⟨gb150, 0, none⟩ = some (.int .u64 x151000_1) := (blk_cell BK150.out 0).trans rfl
     have hfs20 := blk_frozen BK150.out 0
     have hns20_0 := NB143_150.out
     have hns20_1 := NB144_150.out
     have hms20_0 := NB150_143.out
     have hms20_1 := NB150_144.out
     have hs21 : w19.cell? ⟨gb150, 1, none⟩ = some (.int .i64 x151001_1) := (blk_cell BK150.out 1).trans rfl
     have hfs21 := blk_frozen BK150.out 1
     have hns21_0 := NB143_150.out
     have hns21_1 := NB144_150.out
     have hms21_0 := NB150_143.out
     have hms21_1 := NB150_144.out
     have hs23 : w19.cell? ⟨gb150, 2, none⟩ = some (.slice Ao18 x151002_1.length co18) := (blk_cell BK150.out 2).trans rfl
     have hfs23 := blk_frozen BK150.out 2
     have hns23_0 := NB143_150.out
     have hns23_1 := NB144_150.out
     have hms23_0 := NB150_143.out
     have hms23_1 := NB150_144.out
     refine skip_ (w1 := ?_) (by rfl) rfl ?_ ?_
     rotate_left
     ·go_simp
      rfl
     refine hK.out _ _ ?_
     clear hK K
     refine done_ (done_of HT_.out (by kernel_rfl)) ?_
     try go_wp2
     go_roundg k1
     case measure => have := HK1.out; omega
     case rel => exact ⟨(wrap64 (x6_1 + 1)), (t153), (t154), (t155), (.slice Ao22 t155.length co22), (by first | rfl | (simp; done) | (simp [*]; done)), H', ⟨by have := HK1.out; omega⟩, ⟨by (with_reducible repeat (first | apply Kd.R_alloc | apply Kd.R_drewN | apply Kd.R_drew)); exact Kd.R_mono (Kd.R_far (p := ⟨gb150, 2, none⟩) (Kd.R_far (p := ⟨gb150, 1, none⟩) (Kd.R_far (p := ⟨gb150, 0, none⟩) (Kd.R_types HO157.out BK150.out (by decide)) (fun _ hk => hk.2) (.int .u64 t153)) (fun _ hk => hk.2) (.int .i64 t154)) (fun _ hk => hk.2) (.slice Ao22 t155.length co22)) (fun _ hk => trivial)⟩, ⟨by (with_reducible repeat (first | refine blk_drewN ?_ _ | refine blk_drew ?_ | refine blk_alloc ?_ _)); refine blk_far ?_ NB143_150.out _; (with_reducible repeat (first | refine blk_drewN ?_ _ | refine blk_drew ?_ | refine blk_alloc ?_ _)); refine blk_far ?_ NB143_150.out _; (with_reducible repeat (first | refine blk_drewN ?_ _ | refine blk_drew ?_ | refine blk_alloc ?_ _)); refine blk_far ?_ NB143_150.out _; (with_reducible repeat (first | refine blk_drewN ?_ _ | refine blk_drew ?_ | refine blk_alloc ?_ _)); exact BK143.out⟩, ⟨by (with_reducible repeat (first | refine blk_drewN ?_ _ | refine blk_drew ?_ | refine blk_alloc ?_ _)); refine blk_far ?_ NB144_150.out _; (with_reducible repeat (first | refine blk_drewN ?_ _ | refine blk_drew ?_ | refine blk_alloc ?_ _)); refine blk_far ?_ NB144_150.out _; (with_reducible repeat (first | refine blk_drewN ?_ _ | refine blk_drew ?_ | refine blk_alloc ?_ _)); refine blk_far ?_ NB144_150.out _; (with_reducible repeat (first | refine blk_drewN ?_ _ | refine blk_drew ?_ | refine blk_alloc ?_ _)); exact BK144.out⟩, ⟨by (with_reducible repeat (first | refine blk_drewN ?_ _ | refine blk_drew ?_ | refine blk_alloc ?_ _)); refine blk_put (cs := #[.int .u64 t153, .int .i64 t154, .slice Ao18 x151002_1.length co18]) ?_ 2 _ rfl; (with_reducible repeat (first | refine blk_drewN ?_ _ | refine blk_drew ?_ | refine blk_alloc ?_ _)); refine blk_put (cs := #[.int .u64 t153, .int .i64 x151001_1, .slice Ao18 x151002_1.length co18]) ?_ 1 _ rfl; (with_reducible repeat (first | refine blk_drewN ?_ _ | refine blk_drew ?_ | refine blk_alloc ?_ _)); refine blk_put (cs := #[.int .u64 x151000_1, .int .i64 x151001_1, .slice Ao18 x151002_1.length co18]) ?_ 0 _ rfl; (with_reducible repeat (first | refine blk_drewN ?_ _ | refine blk_drew ?_ | refine blk_alloc ?_ _)); exact BK150.out⟩, ⟨by repeat (first | (with_reducible first | exact HB.out | apply below_alloc | apply pw_below_drewN | apply below_drew1 | refine below_set ?_ GE143.out | refine below_set ?_ GE144.out | refine below_set ?_ GE150.out) | exact HB.out)⟩⟩
    ·rw [if_neg c15] at H
     exact absurd H (by simp)
   ·rw [if_neg c14] at H
    have c14b0 : decide (x6_1 < (l1.length : Int)) = false := decide_eq_false c14
    clear c14
    simp only [Option.some.injEq, Prod.mk.injEq] at H
    obtain ⟨rfl, rfl, rfl⟩ := H
    have hnb24 := NB150_143.out
    have hnc24 := NB143_150.out
    have hnb25 := NB150_144.out
    have hnc25 := NB144_150.out
    have hcz26_0 : wr.cell? ⟨gb150, 0, none⟩ = some (.int .u64 x151000_1) := (blk_cell BK150.out 0).trans rfl
    have hcz26_1 : wr.cell? ⟨gb150, 1, none⟩ = some (.int .i64 x151001_1) := (blk_cell BK150.out 1).trans rfl
    have hcz26_2 : wr.cell? ⟨gb150, 2, none⟩ = some (u151002) := (blk_cell BK150.out 2).trans rfl
    have hfz26_0 := blk_frozen BK150.out 0
    have hfz26_1 := blk_frozen BK150.out 1
    have hfz26_2 := blk_frozen BK150.out 2
    have hnb27 := NB144_143.out
    have hnc27 := NB143_144.out
    have hcz28_0 : wr.cell? ⟨gb144, 0, none⟩ = some (.int .u64 0) := (blk_cell BK144.out 0).trans rfl
    have hcz28_1 : wr.cell? ⟨gb144, 1, none⟩ = some (.int .i64 0) := (blk_cell BK144.out 1).trans rfl
    have hcz28_2 : wr.cell? ⟨gb144, 2, none⟩ = some (.slice none 0 0) := (blk_cell BK144.out 2).trans rfl
    have hfz28_0 := blk_frozen BK144.out 0
    have hfz28_1 := blk_frozen BK144.out 1
    have hfz28_2 := blk_frozen BK144.out 2
    obtain ⟨Ao29, co29, eo29⟩ := Kd.R_slice HO_151002.out
    subst eo29
    go_wp2
    refine bodyPost_ret (results_cell_row rfl _ _ gb144 33 #[.int .u64 x151000_1, .int .i64 x151001_1, .slice Ao29 x151002_1.length co29] (0, 0) _ rfl (by (with_reducible repeat (first | refine blk_drewN ?_ _ | refine blk_drew ?_ | refine blk_alloc ?_ _)); refine blk_put (cs := #[.int .u64 x151000_1, .int .i64 x151001_1, .slice none 0 0]) ?_ 2 _ rfl; (with_reducible repeat (first | refine blk_drewN ?_ _ | refine blk_drew ?_ | refine blk_alloc ?_ _)); refine blk_put (cs := #[.int .u64 x151000_1, .int .i64 0, .slice none 0 0]) ?_ 1 _ rfl; (with_reducible repeat (first | refine blk_drewN ?_ _ | refine blk_drew ?_ | refine blk_alloc ?_ _)); refine blk_put (cs := #[.int .u64 0, .int .i64 0, .slice none 0 0]) ?_ 0 _ rfl; (with_reducible repeat (first | refine blk_drewN ?_ _ | refine blk_drew ?_ | refine blk_alloc ?_ _)); exact BK144.out) Try.underlying33 rfl (by kernel_rfl)) rfl ?_
    exact ⟨_, by first | rfl | (simp [errW_none, errW_some] <;> rfl) | (simp [*, errW_none, errW_some] <;> rfl), by (with_reducible repeat (first | apply Kd.R_alloc | apply Kd.R_drewN | apply Kd.R_drew)); exact Kd.R_mono (Kd.R_far (p := ⟨gb144, 2, none⟩) (Kd.R_far (p := ⟨gb144, 1, none⟩) (Kd.R_far (p := ⟨gb144, 0, none⟩) (Kd.R_types HO_151002.out BK144.out (by decide)) (fun _ hk => hk.2) (.int .u64 x151000_1)) (fun _ hk => hk.2) (.int .i64 x151001_1)) (fun _ hk => hk.2) (.slice Ao29 x151002_1.length co29)) (fun _ hk => trivial), by repeat (first | (with_reducible first | exact HB.out | apply below_alloc | apply pw_below_drewN | apply below_drew1 | refine below_set ?_ GE143.out | refine below_set ?_ GE144.out | refine below_set ?_ GE150.out) | exact HB.out)⟩
end Go.Proofs.Ytmjhgeinhhhodaa.P
end

section
namespace Go.Proofs.Ytmjhgeinhhhodaa.P
open Go.RowKit Go.Proofs.YtmjhgeinhhhodaaW.PrintWords Go.Proofs.YtmjhgeinhhhodaaW.PrintLast Go.Proofs.YtmjhgeinhhhodaaW.PrintMore
attribute [local go_sem] max2_int min2_int max_two min_two max_three min_three max_four min_four   -- for this text's walks alone
set_option linter.unusedVariables false
set_option linter.unusedSimpArgs false
open Go.Proofs.Ytmjhgeinhhhodaa.Ext (q1_ q2_ q3_ bk_ bw_ sz_ ne_ bx_)
attribute [local go_sem high] Go.Proofs.Ytmjhgeinhhhodaa.Ext.gtr_str Go.Proofs.Ytmjhgeinhhhodaa.Ext.leq_str Go.Proofs.Ytmjhgeinhhhodaa.Ext.geq_str
mutual
def gristmillref06_Same.j0 : Nat → Bool → Int → Int → List ByteArray → Int → Int → List ByteArray → Option (Bool)
 | 0, _, _, _, _, _, _, _ => none
 | k + 1, x26, x213000, x213001, x213002, x214000, x214001, x214002 => if x26 = true then (some false) else (gristmillref06_Same.l0 k 0 x213000 x213001 x213002 x214000 x214001 x214002)
def gristmillref06_Same.l0 : Nat → Int → Int → Int → List ByteArray → Int → Int → List ByteArray → Option (Bool)
 | 0, _, _, _, _, _, _, _ => none
 | k + 1, x5, x213000, x213001, x213002, x214000, x214001, x214002 => if x5 < (x213002.length : Int) then (if 0 ≤ x5 then (if x5 < (x214002.length : Int) then (if (rdOf ByteArray.empty x213002 x5).toList = (rdOf ByteArray.empty x214002 x5).toList then (gristmillref06_Same.l0 k (wrap64 (x5 + 1)) x213000 x213001 x213002 x214000 x214001 x214002) else (some false)) else (none)) else (none)) else (some true)
end
def gristmillref06_Same.f (k : Nat) (a0_0 : Int) (a0_1 : Int) (l0_2 : List ByteArray) (a1_0 : Int) (a1_1 : Int) (l1_2 : List ByteArray) : Option (Bool) := if a0_0 = a1_0 then (if a0_1 = a1_1 then (gristmillref06_Same.j0 k ((l0_2.length : Int) != (l1_2.length : Int)) a0_0 a0_1 l0_2 a1_0 a1_1 l1_2) else (gristmillref06_Same.j0 k true a0_0 a0_1 l0_2 a1_0 a1_1 l1_2)) else (gristmillref06_Same.j0 k true a0_0 a0_1 l0_2 a1_0 a1_1 l1_2)
set_option maxHeartbeats 8000000 in
set_option maxRecDepth 100000 in
theorem gristmillref06_Same.calls (k : Nat) (a0_0 : Int) (a0_1 : Int) (A0_2 : Option Addr) (c0_2 : Nat) (l0_2 : List ByteArray) (a1_0 : Int) (a1_1 : Int) (A1_2 : Option Addr) (c1_2 : Nat) (l1_2 : List ByteArray) (r : Bool) (w : World) (hr0_2 : Kd.C Kd.string w A0_2 l0_2.length l0_2) (hc0_2 : l0_2.length ≤ c0_2) (hr1_2 : Kd.C Kd.string w A1_2 l1_2.length l1_2) (hc1_2 : l1_2.length ≤ c1_2) (h : gristmillref06_Same.f k a0_0 a0_1 l0_2 a1_0 a1_1 l1_2 = some r) :
  Calls Try.prog 14 #[.agg #[.int .u64 a0_0, .int .i64 a0_1, .slice A0_2 l0_2.length c0_2], .agg #[.int .u64 a1_0, .int .i64 a1_1, .slice A1_2 l1_2.length c1_2]] w fun e w' => e = .returned (.bool r) ∧ Below w.heap.size w w' := by
 have hu33 := Try.underlying33
 have HR0_2 := Aside0.mk hr0_2
 have HC0_2 := Aside0.mk hc0_2
 clear hr0_2 hc0_2
 have HR1_2 := Aside0.mk hr1_2
 have HC1_2 := Aside0.mk hc1_2
 clear hr1_2 hc1_2
 have HB := Aside0.mk (Below.refl w.heap.size w)
 have H : (if a0_0 = a1_0 then (if a0_1 = a1_1 then (gristmillref06_Same.j0 k ((l0_2.length : Int) != (l1_2.length : Int)) a0_0 a0_1 l0_2 a1_0 a1_1 l1_2) else (gristmillref06_Same.j0 k true a0_0 a0_1 l0_2 a1_0 a1_1 l1_2)) else (gristmillref06_Same.j0 k true a0_0 a0_1 l0_2 a1_0 a1_1 l1_2)) = some r := h
 clear h
 have HC3 := Aside0.mk H
 clear H
 go_enter Try.func14, Try.ntmps14
 go_upto_region 1 with (first | ((with_reducible refine gate_dst (N := 2) rfl ?_); (try (refine gate_guard (by rfl) ?_; dsimp only)); refine bx_ (N := 2) (cs := #[.int .u64 a0_0, .int .i64 a0_1, .slice A0_2 l0_2.length c0_2]) (t := 33) ?_; intro gb212 hg w4 hbox hb; have n0_ := Aside0.mk (below_step (bw_ HB.out) hb); have n1_ := Aside0.mk (hbox); have n2_ := Aside0.mk (sz_ hg (bw_ HB.out)); have n3_ := n2_; clear HB; have HB := n0_; have BK212 := n1_; have GW212 := n2_; have GE212 := n3_; clear n0_ n1_ n2_ n3_; clear hb hbox hg) | ((with_reducible refine gate_dst (N := 3) rfl ?_); (try (refine gate_guard (by rfl) ?_; dsimp only)); refine bx_ (N := 3) (cs := #[.int .u64 a1_0, .int .i64 a1_1, .slice A1_2 l1_2.length c1_2]) (t := 33) ?_; intro gb213 hg w5 hbox hb; have n0_ := Aside0.mk (blk_below (bk_ BK212.out) hb); have n1_ := Aside0.mk (below_step (bw_ HB.out) hb); have n2_ := Aside0.mk (hbox); have n3_ := Aside0.mk (sz_ hg (bw_ HB.out)); have n4_ := n3_; have n5_ := Aside0.mk (ne_ hg (blk_lt (bk_ BK212.out))); have n6_ := Aside0.mk n5_.out.symm; clear BK212 HB; have BK212 := n0_; have HB := n1_; have BK213 := n2_; have GW213 := n3_; have GE213 := n4_; have NB212_213 := n5_; have NB213_212 := n6_; clear n0_ n1_ n2_ n3_ n4_ n5_ n6_; clear hb hbox hg))
 repeat (go_quiet (first | ((with_reducible refine gate_dst (N := 2) rfl ?_); (try (refine gate_guard (by rfl) ?_; dsimp only)); refine bx_ (N := 2) (cs := #[.int .u64 a0_0, .int .i64 a0_1, .slice A0_2 l0_2.length c0_2]) (t := 33) ?_; intro gb212 hg w4 hbox hb; have n0_ := Aside0.mk (below_step (bw_ HB.out) hb); have n1_ := Aside0.mk (hbox); have n2_ := Aside0.mk (sz_ hg (bw_ HB.out)); have n3_ := n2_; clear HB; have HB := n0_; have BK212 := n1_; have GW212 := n2_; have GE212 := n3_; clear n0_ n1_ n2_ n3_; clear hb hbox hg) | ((with_reducible refine gate_dst (N := 3) rfl ?_); (try (refine gate_guard (by rfl) ?_; dsimp only)); refine bx_ (N := 3) (cs := #[.int .u64 a1_0, .int .i64 a1_1, .slice A1_2 l1_2.length c1_2]) (t := 33) ?_; intro gb213 hg w5 hbox hb; have n0_ := Aside0.mk (blk_below (bk_ BK212.out) hb); have n1_ := Aside0.mk (below_step (bw_ HB.out) hb); have n2_ := Aside0.mk (hbox); have n3_ := Aside0.mk (sz_ hg (bw_ HB.out)); have n4_ := n3_; have n5_ := Aside0.mk (ne_ hg (blk_lt (bk_ BK212.out))); have n6_ := Aside0.mk n5_.out.symm; clear BK212 HB; have BK212 := n0_; have HB := n1_; have BK213 := n2_; have GW213 := n3_; have GE213 := n4_; have NB212_213 := n5_; have NB213_212 := n6_; clear n0_ n1_ n2_ n3_ n4_ n5_ n6_; clear hb hbox hg)); go_upto_region 1 with (first | ((with_reducible refine gate_dst (N := 2) rfl ?_); (try (refine gate_guard (by rfl) ?_; dsimp only)); refine bx_ (N := 2) (cs := #[.int .u64 a0_0, .int .i64 a0_1, .slice A0_2 l0_2.length c0_2]) (t := 33) ?_; intro gb212 hg w4 hbox hb; have n0_ := Aside0.mk (below_step (bw_ HB.out) hb); have n1_ := Aside0.mk (hbox); have n2_ := Aside0.mk (sz_ hg (bw_ HB.out)); have n3_ := n2_; clear HB; have HB := n0_; have BK212 := n1_; have GW212 := n2_; have GE212 := n3_; clear n0_ n1_ n2_ n3_; clear hb hbox hg) | ((with_reducible refine gate_dst (N := 3) rfl ?_); (try (refine gate_guard (by rfl) ?_; dsimp only)); refine bx_ (N := 3) (cs := #[.int .u64 a1_0, .int .i64 a1_1, .slice A1_2 l1_2.length c1_2]) (t := 33) ?_; intro gb213 hg w5 hbox hb; have n0_ := Aside0.mk (blk_below (bk_ BK212.out) hb); have n1_ := Aside0.mk (below_step (bw_ HB.out) hb); have n2_ := Aside0.mk (hbox); have n3_ := Aside0.mk (sz_ hg (bw_ HB.out)); have n4_ := n3_; have n5_ := Aside0.mk (ne_ hg (blk_lt (bk_ BK212.out))); have n6_ := Aside0.mk n5_.out.symm; clear BK212 HB; have BK212 := n0_; have HB := n1_; have BK213 := n2_; have GW213 := n3_; have GE213 := n4_; have NB212_213 := n5_; have NB213_212 := n6_; clear n0_ n1_ n2_ n3_ n4_ n5_ n6_; clear hb hbox hg)))
 (try simp only [Act.put, q1_, q2_, q3_])
 go_cut [26] (fun v26 wc => ∃ (kq : Nat) (x26_2 : Bool), v26 = .bool x26_2 ∧ Aside0 (gristmillref06_Same.j0 kq x26_2 a0_0 a0_1 l0_2 a1_0 a1_1 l1_2 = some r) ∧ Aside0 (kq ≤ k) ∧ Aside0 (wc.heap[gb212]? = some (.cells #[.int .u64 a0_0, .int .i64 a0_1, (.slice A0_2 l0_2.length c0_2)] 33 (0, 0))) ∧ Aside0 (wc.heap[gb213]? = some (.cells #[.int .u64 a1_0, .int .i64 a1_1, (.slice A1_2 l1_2.length c1_2)] 33 (0, 0))) ∧ Aside0 (Below w.heap.size w wc))
 case first =>
  have H := HC3.out
  clear HC3
  by_cases c6 : a0_0 = a1_0
  ·rw [if_pos c6] at H
   have c6b0 : (a0_0 == a1_0) = true := beq_iff_eq.mpr c6
   have c6b1 : (a0_0 != a1_0) = false := bne_eq_false_iff_eq.mpr c6
   clear c6
   (first | rw [c6b0] | (simp only [i64_w, i32_w]; rw [c6b0]) | skip)
   by_cases c7 : a0_1 = a1_1
   ·rw [if_pos c7] at H
    have c7b0 : (a0_1 == a1_1) = true := beq_iff_eq.mpr c7
    have c7b1 : (a0_1 != a1_1) = false := bne_eq_false_iff_eq.mpr c7
    clear c7
    have H' := Aside0.mk H
    clear H
    have hnb8 := NB212_213.out
    have hnc8 := NB213_212.out
    have hcz9_0 : w5.cell? ⟨gb212, 0, none⟩ = some (.int .u64 a0_0) := (blk_cell BK212.out 0).trans rfl
    have hcz9_1 : w5.cell? ⟨gb212, 1, none⟩ = some (.int .i64 a0_1) := (blk_cell BK212.out 1).trans rfl
    have hcz9_2 : w5.cell? ⟨gb212, 2, none⟩ = some (.slice A0_2 l0_2.length c0_2) := (blk_cell BK212.out 2).trans rfl
    have hfz9_0 := blk_frozen BK212.out 0
    have hfz9_1 := blk_frozen BK212.out 1
    have hfz9_2 := blk_frozen BK212.out 2
    have hcz10_0 : w5.cell? ⟨gb213, 0, none⟩ = some (.int .u64 a1_0) := (blk_cell BK213.out 0).trans rfl
    have hcz10_1 : w5.cell? ⟨gb213, 1, none⟩ = some (.int .i64 a1_1) := (blk_cell BK213.out 1).trans rfl
    have hcz10_2 : w5.cell? ⟨gb213, 2, none⟩ = some (.slice A1_2 l1_2.length c1_2) := (blk_cell BK213.out 2).trans rfl
    have hfz10_0 := blk_frozen BK213.out 0
    have hfz10_1 := blk_frozen BK213.out 1
    have hfz10_2 := blk_frozen BK213.out 2
    go_wp2
    repeat (go_quiet (fail); try go_wp2)
    go_meet
    case rel => exact ⟨_, (((l0_2.length : Int) != (l1_2.length : Int))), (by first | rfl | (simp; done) | (simp [*]; done)), H', ⟨by first | omega | exact Nat.le_refl _⟩, ⟨by (with_reducible repeat (first | refine blk_drewN ?_ _ | refine blk_drew ?_ | refine blk_alloc ?_ _)); exact BK212.out⟩, ⟨by (with_reducible repeat (first | refine blk_drewN ?_ _ | refine blk_drew ?_ | refine blk_alloc ?_ _)); exact BK213.out⟩, ⟨by repeat (first | (with_reducible first | exact HB.out | apply below_alloc | apply pw_below_drewN | apply below_drew1 | refine below_set ?_ GE212.out | refine below_set ?_ GE213.out) | exact HB.out)⟩⟩
   ·rw [if_neg c7] at H
    have c7b0 : (a0_1 == a1_1) = false := beq_eq_false_iff_ne.mpr c7
    have c7b1 : (a0_1 != a1_1) = true := bne_iff_ne.mpr c7
    have H' := Aside0.mk H
    clear H
    have hnb11 := NB212_213.out
    have hnc11 := NB213_212.out
    have hcz12_0 : w5.cell? ⟨gb212, 0, none⟩ = some (.int .u64 a0_0) := (blk_cell BK212.out 0).trans rfl
    have hcz12_1 : w5.cell? ⟨gb212, 1, none⟩ = some (.int .i64 a0_1) := (blk_cell BK212.out 1).trans rfl
    have hcz12_2 : w5.cell? ⟨gb212, 2, none⟩ = some (.slice A0_2 l0_2.length c0_2) := (blk_cell BK212.out 2).trans rfl
    have hfz12_0 := blk_frozen BK212.out 0
    have hfz12_1 := blk_frozen BK212.out 1
    have hfz12_2 := blk_frozen BK212.out 2
    have hcz13_0 : w5.cell? ⟨gb213, 0, none⟩ = some (.int .u64 a1_0) := (blk_cell BK213.out 0).trans rfl
    have hcz13_1 : w5.cell? ⟨gb213, 1, none⟩ = some (.int .i64 a1_1) := (blk_cell BK213.out 1).trans rfl
    have hcz13_2 : w5.cell? ⟨gb213, 2, none⟩ = some (.slice A1_2 l1_2.length c1_2) := (blk_cell BK213.out 2).trans rfl
    have hfz13_0 := blk_frozen BK213.out 0
    have hfz13_1 := blk_frozen BK213.out 1
    have hfz13_2 := blk_frozen BK213.out 2
    go_wp2
    repeat (go_quiet (fail); try go_wp2)
    go_meet
    case rel => exact ⟨_, (true), (by first | rfl | (simp; done) | (simp [*]; done)), H', ⟨by first | omega | exact Nat.le_refl _⟩, ⟨by (with_reducible repeat (first | refine blk_drewN ?_ _ | refine blk_drew ?_ | refine blk_alloc ?_ _)); exact BK212.out⟩, ⟨by (with_reducible repeat (first | refine blk_drewN ?_ _ | refine blk_drew ?_ | refine blk_alloc ?_ _)); exact BK213.out⟩, ⟨by repeat (first | (with_reducible first | exact HB.out | apply below_alloc | apply pw_below_drewN | apply below_drew1 | refine below_set ?_ GE212.out | refine below_set ?_ GE213.out) | exact HB.out)⟩⟩
  ·rw [if_neg c6] at H
   have c6b0 : (a0_0 == a1_0) = false := beq_eq_false_iff_ne.mpr c6
   have c6b1 : (a0_0 != a1_0) = true := bne_iff_ne.mpr c6
   (first | rw [c6b0] | (simp only [i64_w, i32_w]; rw [c6b0]) | skip)
   have H' := Aside0.mk H
   clear H
   have hnb14 := NB212_213.out
   have hnc14 := NB213_212.out
   have hcz15_0 : w5.cell? ⟨gb212, 0, none⟩ = some (.int .u64 a0_0) := (blk_cell BK212.out 0).trans rfl
   have hcz15_1 : w5.cell? ⟨gb212, 1, none⟩ = some (.int .i64 a0_1) := (blk_cell BK212.out 1).trans rfl
   have hcz15_2 : w5.cell? ⟨gb212, 2, none⟩ = some (.slice A0_2 l0_2.length c0_2) := (blk_cell BK212.out 2).trans rfl
   have hfz15_0 := blk_frozen BK212.out 0
   have hfz15_1 := blk_frozen BK212.out 1
   have hfz15_2 := blk_frozen BK212.out 2
   have hcz16_0 : w5.cell? ⟨gb213, 0, none⟩ = some (.int .u64 a1_0) := (blk_cell BK213.out 0).trans rfl
   have hcz16_1 : w5.cell? ⟨gb213, 1, none⟩ = some (.int .i64 a1_1) := (blk_cell BK213.out 1).trans rfl
   have hcz16_2 : w5.cell? ⟨gb213, 2, none⟩ = some (.slice A1_2 l1_2.length c1_2) := (blk_cell BK213.out 2).trans rfl
   have hfz16_0 := blk_frozen BK213.out 0
   have hfz16_1 := blk_frozen BK213.out 1
   have hfz16_2 := blk_frozen BK213.out 2
   go_wp2
   repeat (go_quiet (fail); try go_wp2)
   go_meet
   case rel => exact ⟨_, (true), (by first | rfl | (simp; done) | (simp [*]; done)), H', ⟨by first | omega | exact Nat.le_refl _⟩, ⟨by (with_reducible repeat (first | refine blk_drewN ?_ _ | refine blk_drew ?_ | refine blk_alloc ?_ _)); exact BK212.out⟩, ⟨by (with_reducible repeat (first | refine blk_drewN ?_ _ | refine blk_drew ?_ | refine blk_alloc ?_ _)); exact BK213.out⟩, ⟨by repeat (first | (with_reducible first | exact HB.out | apply below_alloc | apply pw_below_drewN | apply below_drew1 | refine below_set ?_ GE212.out | refine below_set ?_ GE213.out) | exact HB.out)⟩⟩
 case rest =>
  clear HC3
  try clear c1
  try clear p2
  try clear c6
  try clear c6b0
  try clear c6b1
  try clear c7
  try clear c7b0
  try clear c7b1
  try clear c8
  try clear c11
  try clear c14
  try clear hcz10_0
  try clear hcz10_1
  try clear hcz10_2
  try clear hcz12_0
  try clear hcz12_1
  try clear hcz12_2
  try clear hcz13_0
  try clear hcz13_1
  try clear hcz13_2
  try clear hcz15_0
  try clear hcz15_1
  try clear hcz15_2
  try clear hcz16_0
  try clear hcz16_1
  try clear hcz16_2
  try clear hcz9_0
  try clear hcz9_1
  try clear hcz9_2
  try clear hfz10_0
  try clear hfz10_1
  try clear hfz10_2
  try clear hfz12_0
  try clear hfz12_1
  try clear hfz12_2
  try clear hfz13_0
  try clear hfz13_1
  try clear hfz13_2
  try clear hfz15_0
  try clear hfz15_1
  try clear hfz15_2
  try clear hfz16_0
  try clear hfz16_1
  try clear hfz16_2
  try clear hfz9_0
  try clear hfz9_1
  try clear hfz9_2
  obtain ⟨kq, x26_2, rfl, HA, HJ2, BK212, BK213, HB⟩ := hcut
  cases kq with
  | zero => exact absurd HA.out (by simp [gristmillref06_Same.j0])
  | succ kj2 =>
   have H := HA.out
   clear HA
   simp only [gristmillref06_Same.j0] at H
   by_cases c17 : x26_2 = true
   ·subst c17
    have H1 : (some false) = some r := by rw [if_pos rfl] at H; exact H
    clear H
    have H := H1
    clear H1
    obtain rfl := Option.some.inj H
    go_wp2
    repeat (go_quiet (fail); try go_wp2)
    go_ret
    exact ⟨by first | rfl | (simp [errW_none, errW_some] <;> rfl) | (simp [*, errW_none, errW_some] <;> rfl), by repeat (first | (with_reducible first | exact HB.out | apply below_alloc | apply pw_below_drewN | apply below_drew1 | refine below_set ?_ GE212.out | refine below_set ?_ GE213.out) | exact HB.out)⟩
   ·replace c17 := Bool.eq_false_iff.mpr c17
    subst c17
    have H1 : (gristmillref06_Same.l0 kj2 0 a0_0 a0_1 l0_2 a1_0 a1_1 l1_2) = some r := by rw [if_neg (show ¬ (false = true) by decide)] at H; exact H
    clear H
    have H := H1
    clear H1
    have H' := Aside0.mk H
    clear H
    go_wp2
    repeat (go_quiet (fail); try go_wp2)
    go_loopg [5] kj2 (fun kq v5 w' => ∃ (x5_2 : Int), v5 = .int .i64 x5_2 ∧ Aside0 (gristmillref06_Same.l0 kq x5_2 a0_0 a0_1 l0_2 a1_0 a1_1 l1_2 = some r) ∧ Aside0 (kq ≤ kj2) ∧ Aside0 (w'.heap[gb212]? = some (.cells #[.int .u64 a0_0, .int .i64 a0_1, (.slice A0_2 l0_2.length c0_2)] 33 (0, 0))) ∧ Aside0 (w'.heap[gb213]? = some (.cells #[.int .u64 a1_0, .int .i64 a1_1, (.slice A1_2 l1_2.length c1_2)] 33 (0, 0))) ∧ Aside0 (Below w.heap.size w w'))
    case atStart => exact ⟨(0), (by first | rfl | (simp; done) | (simp [*]; done)), H', ⟨Nat.le_refl _⟩, ⟨by (with_reducible repeat (first | refine blk_drewN ?_ _ | refine blk_drew ?_ | refine blk_alloc ?_ _)); exact BK212.out⟩, ⟨by (with_reducible repeat (first | refine blk_drewN ?_ _ | refine blk_drew ?_ | refine blk_alloc ?_ _)); exact BK213.out⟩, ⟨by repeat (first | (with_reducible first | exact HB.out | apply below_alloc | apply pw_below_drewN | apply below_drew1 | refine below_set ?_ GE212.out | refine below_set ?_ GE213.out) | exact HB.out)⟩⟩
    case round =>
     clear H'
     try clear c1
     try clear p2
     try clear c6
     try clear c6b0
     try clear c6b1
     try clear c7
     try clear c7b0
     try clear c7b1
     try clear c8
     try clear c11
     try clear c14
     try clear c17
     try clear hcz10_0
     try clear hcz10_1
     try clear hcz10_2
     try clear hcz12_0
     try clear hcz12_1
     try clear hcz12_2
     try clear hcz13_0
     try clear hcz13_1
     try clear hcz13_2
     try clear hcz15_0
     try clear hcz15_1
     try clear hcz15_2
     try clear hcz16_0
     try clear hcz16_1
     try clear hcz16_2
     try clear hcz9_0
     try clear hcz9_1
     try clear hcz9_2
     try clear hfz10_0
     try clear hfz10_1
     try clear hfz10_2
     try clear hfz12_0
     try clear hfz12_1
     try clear hfz12_2
     try clear hfz13_0
     try clear hfz13_1
     try clear hfz13_2
     try clear hfz15_0
     try clear hfz15_1
     try clear hfz15_2
     try clear hfz16_0
     try clear hfz16_1
     try clear hfz16_2
     try clear hfz9_0
     try clear hfz9_1
     try clear hfz9_2
     try clear p2
     obtain ⟨x5_2, rfl, HA, HK2, BK212, BK213, HB⟩ := hrel
     cases gk with
     | zero => exact absurd HA.out (by simp [gristmillref06_Same.l0])
     | succ k2 =>
      have H := HA.out
      clear HA
      simp only [gristmillref06_Same.l0] at H
      by_cases c18 : x5_2 < (l0_2.length : Int)
      ·rw [if_pos c18] at H
       have c18b0 : decide (x5_2 < (l0_2.length : Int)) = true := decide_eq_true c18
       clear c18
       by_cases c19 : 0 ≤ x5_2
       ·rw [if_pos c19] at H
        have c19b0 : decide (0 ≤ x5_2) = true := decide_eq_true c19
        clear c19
        by_cases c20 : x5_2 < (l1_2.length : Int)
        ·rw [if_pos c20] at H
         have c20b0 : decide (x5_2 < (l1_2.length : Int)) = true := decide_eq_true c20
         clear c20
         by_cases c21 : (rdOf ByteArray.empty l0_2 x5_2).toList = (rdOf ByteArray.empty l1_2 x5_2).toList
         ·rw [if_pos c21] at H
          have c21b0 : ((rdOf ByteArray.empty l0_2 x5_2).toList == (rdOf ByteArray.empty l1_2 x5_2).toList) = true := beq_iff_eq.mpr c21
          have c21b1 : ((rdOf ByteArray.empty l0_2 x5_2).toList != (rdOf ByteArray.empty l1_2 x5_2).toList) = false := bne_eq_false_iff_eq.mpr c21
          clear c21
          have H' := Aside0.mk H
          clear H
          have hnb22 := NB212_213.out
          have hnc22 := NB213_212.out
          have hcz23_0 : wr.cell? ⟨gb212, 0, none⟩ = some (.int .u64 a0_0) := (blk_cell BK212.out 0).trans rfl
          have hcz23_1 : wr.cell? ⟨gb212, 1, none⟩ = some (.int .i64 a0_1) := (blk_cell BK212.out 1).trans rfl
          have hcz23_2 : wr.cell? ⟨gb212, 2, none⟩ = some (.slice A0_2 l0_2.length c0_2) := (blk_cell BK212.out 2).trans rfl
          have hfz23_0 := blk_frozen BK212.out 0
          have hfz23_1 := blk_frozen BK212.out 1
          have hfz23_2 := blk_frozen BK212.out 2
          have p214 : 0 ≤ (x5_2 : Int) := of_decide_eq_true (by assumption)
          have q214 : x5_2 < (l0_2.length : Int) := of_decide_eq_true (by assumption)
          obtain ⟨ad214, e214, hx214_0⟩ := Kd.at_string HR0_2.out x5_2 p214 q214
          cases e214
          replace hx214_0 := pw_cell_below HB.out hx214_0
          replace p214 := eq_true p214
          replace q214 := eq_true q214
          have hcz24_0 : wr.cell? ⟨gb213, 0, none⟩ = some (.int .u64 a1_0) := (blk_cell BK213.out 0).trans rfl
          have hcz24_1 : wr.cell? ⟨gb213, 1, none⟩ = some (.int .i64 a1_1) := (blk_cell BK213.out 1).trans rfl
          have hcz24_2 : wr.cell? ⟨gb213, 2, none⟩ = some (.slice A1_2 l1_2.length c1_2) := (blk_cell BK213.out 2).trans rfl
          have hfz24_0 := blk_frozen BK213.out 0
          have hfz24_1 := blk_frozen BK213.out 1
          have hfz24_2 := blk_frozen BK213.out 2
          have p215 : 0 ≤ (x5_2 : Int) := of_decide_eq_true (by assumption)
          have q215 : x5_2 < (l1_2.length : Int) := of_decide_eq_true (by assumption)
          obtain ⟨ad215, e215, hx215_0⟩ := Kd.at_string HR1_2.out x5_2 p215 q215
          cases e215
          replace hx215_0 := pw_cell_below HB.out hx215_0
          replace p215 := eq_true p215
          replace q215 := eq_true q215
          go_wp2
          repeat (go_quiet (fail); try go_wp2)
          go_roundg k2
          case measure => have := HJ2.out; have := HK2.out; omega
          case rel => exact ⟨(wrap64 (x5_2 + 1)), (by first | rfl | (simp; done) | (simp [*]; done)), H', ⟨by have := HJ2.out; have := HK2.out; omega⟩, ⟨by (with_reducible repeat (first | refine blk_drewN ?_ _ | refine blk_drew ?_ | refine blk_alloc ?_ _)); exact BK212.out⟩, ⟨by (with_reducible repeat (first | refine blk_drewN ?_ _ | refine blk_drew ?_ | refine blk_alloc ?_ _)); exact BK213.out⟩, ⟨by repeat (first | (with_reducible first | exact HB.out | apply below_alloc | apply pw_below_drewN | apply below_drew1 | refine below_set ?_ GE212.out | refine below_set ?_ GE213.out) | exact HB.out)⟩⟩
         ·rw [if_neg c21] at H
          have c21b0 : ((rdOf ByteArray.empty l0_2 x5_2).toList == (rdOf ByteArray.empty l1_2 x5_2).toList) = false := beq_eq_false_iff_ne.mpr c21
          have c21b1 : ((rdOf ByteArray.empty l0_2 x5_2).toList != (rdOf ByteArray.empty l1_2 x5_2).toList) = true := bne_iff_ne.mpr c21
          obtain rfl := Option.some.inj H
          have hnb25 := NB212_213.out
          have hnc25 := NB213_212.out
          have hcz26_0 : wr.cell? ⟨gb212, 0, none⟩ = some (.int .u64 a0_0) := (blk_cell BK212.out 0).trans rfl
          have hcz26_1 : wr.cell? ⟨gb212, 1, none⟩ = some (.int .i64 a0_1) := (blk_cell BK212.out 1).trans rfl
          have hcz26_2 : wr.cell? ⟨gb212, 2, none⟩ = some (.slice A0_2 l0_2.length c0_2) := (blk_cell BK212.out 2).trans rfl
          have hfz26_0 := blk_frozen BK212.out 0
          have hfz26_1 := blk_frozen BK212.out 1
          have hfz26_2 := blk_frozen BK212.out 2
          have p214 : 0 ≤ (x5_2 : Int) := of_decide_eq_true (by assumption)
          have q214 : x5_2 < (l0_2.length : Int) := of_decide_eq_true (by assumption)
          obtain ⟨ad214, e214, hx214_0⟩ := Kd.at_string HR0_2.out x5_2 p214 q214
          cases e214
          replace hx214_0 := pw_cell_below HB.out hx214_0
          replace p214 := eq_true p214
          replace q214 := eq_true q214
          have hcz27_0 : wr.cell? ⟨gb213, 0, none⟩ = some (.int .u64 a1_0) := (blk_cell BK213.out 0).trans rfl
          have hcz27_1 : wr.cell? ⟨gb213, 1, none⟩ = some (.int .i64 a1_1) := (blk_cell BK213.out 1).trans rfl
          have hcz27_2 : wr.cell? ⟨gb213, 2, none⟩ = some (.slice A1_2 l1_2.length c1_2) := (blk_cell BK213.out 2).trans rfl
          have hfz27_0 := blk_frozen BK213.out 0
          have hfz27_1 := blk_frozen BK213.out 1
          have hfz27_2 := blk_frozen BK213.out 2
          have p215 : 0 ≤ (x5_2 : Int) := of_decide_eq_true (by assumption)
          have q215 : x5_2 < (l1_2.length : Int) := of_decide_eq_true (by assumption)
          obtain ⟨ad215, e215, hx215_0⟩ := Kd.at_string HR1_2.out x5_2 p215 q215
          cases e215
          replace hx215_0 := pw_cell_below HB.out hx215_0
          replace p215 := eq_true p215
          replace q215 := eq_true q215
          go_wp2
          repeat (go_quiet (fail); try go_wp2)
          go_ret
          exact ⟨by first | rfl | (simp [errW_none, errW_some] <;> rfl) | (simp [*, errW_none, errW_some] <;> rfl), by repeat (first | (with_reducible first | exact HB.out | apply below_alloc | apply pw_below_drewN | apply below_drew1 | refine below_set ?_ GE212.out | refine below_set ?_ GE213.out) | exact HB.out)⟩
        ·rw [if_neg c20] at H
         exact absurd H (by simp)
       ·rw [if_neg c19] at H
        exact absurd H (by simp)
      ·rw [if_neg c18] at H
       have c18b0 : decide (x5_2 < (l0_2.length : Int)) = false := decide_eq_false c18
       clear c18
       obtain rfl := Option.some.inj H
       have hnb28 := NB212_213.out
       have hnc28 := NB213_212.out
       have hcz29_0 : wr.cell? ⟨gb212, 0, none⟩ = some (.int .u64 a0_0) := (blk_cell BK212.out 0).trans rfl
       have hcz29_1 : wr.cell? ⟨gb212, 1, none⟩ = some (.int .i64 a0_1) := (blk_cell BK212.out 1).trans rfl
       have hcz29_2 : wr.cell? ⟨gb212, 2, none⟩ = some (.slice A0_2 l0_2.length c0_2) := (blk_cell BK212.out 2).trans rfl
       have hfz29_0 := blk_frozen BK212.out 0
       have hfz29_1 := blk_frozen BK212.out 1
       have hfz29_2 := blk_frozen BK212.out 2
       go_wp2
       repeat (go_quiet (fail); try go_wp2)
       go_ret
       exact ⟨by first | rfl | (simp [errW_none, errW_some] <;> rfl) | (simp [*, errW_none, errW_some] <;> rfl), by repeat (first | (with_reducible first | exact HB.out | apply below_alloc | apply pw_below_drewN | apply below_drew1 | refine below_set ?_ GE212.out | refine below_set ?_ GE213.out) | exact HB.out)⟩
end Go.Proofs.Ytmjhgeinhhhodaa.P
end

section
namespace Go.Proofs.Ytmjhgeinhhhodaa.P
set_option linter.unusedVariables false
set_option linter.unusedSimpArgs false
open Go.RowKit Go.Proofs.YtmjhgeinhhhodaaW.PrintWords Go.Proofs.YtmjhgeinhhhodaaW.PrintLast Go.Proofs.YtmjhgeinhhhodaaW.PrintMore Go.Proofs.Ytmjhgeinhhhodaa.Lib
def wrongB (d m k c : Int) : Bool := if k < 1 ∨ 5 < k then true else if k = 1 then false else decide (c < 0 ∨ (if k = 5 then d else m) ≤ c)
set_option maxRecDepth 100000 in
set_option maxHeartbeats 400000 in
theorem wrong_out (d m k c : Int) (g : Nat) (w : World) (HC : Knows k c #[.bool false, .nilFunc, .nilFunc, .nilFunc] false) (hs : w.heap[g]? = some (.cells #[.int .i64 d, .int .i64 m] 27 (0, 0))) :
    Calls Try.prog 33 #[.agg #[.int .i64 k, .int .i64 c], .pointer (some ⟨g, 0, none⟩)] w fun e w' => e = .returned (.bool true) ∧ Below w.heap.size w w' := by
  have HSc := Aside0.mk hs
  clear hs
  go_enter Try.func33, Try.ntmps33
  go_wp2_with (first
    | (((with_reducible refine gate_dst (N := 2) rfl ?_); refine box_event ?hg (N := 2) ?hd (cs := #[.int .i64 k, .int .i64 c]) (t := 23) ?hr ?_; (case hd => rfl); (case hg => rfl); (case hr => first | (go_simp; done) | (go_simp; rfl)); intro g1 hg w1 hbox hb; have GE1 := Aside0.mk (Nat.le_of_eq hg.symm); have BK1 := Aside0.mk hbox; have HX1 := Aside0.mk hb; clear hg hbox hb); have BKs := Aside0.mk (blk_below HSc.out HX1.out); (have hg1_0 : w1.cell? ⟨g1, 0, none⟩ = some (.int .i64 k) := (blk_cell BK1.out 0).trans rfl; have hfg1_0 := blk_frozen BK1.out 0; have hg1_1 : w1.cell? ⟨g1, 1, none⟩ = some (.int .i64 c) := (blk_cell BK1.out 1).trans rfl; have hfg1_1 := blk_frozen BK1.out 1))
    | (go_at_call 27; refine (HC _).mono ?_; rintro e w3 ⟨rfl, hb3⟩; have BK1b := Aside0.mk (blk_below BK1.out hb3); have BKt := Aside0.mk (blk_below BKs.out hb3); have HB3 := Aside0.mk (below_then HX1.out HX1.out.size hb3); clear hb3; clear hg1_0 hfg1_0 hg1_1 hfg1_1)
    | (((with_reducible refine gate_dst (N := 4) rfl ?_); refine box_event ?hg (N := 4) ?hd (cs := #[.bool false, .nilFunc, .nilFunc, .nilFunc]) (t := 61) ?hr ?_; (case hd => rfl); (case hg => rfl); (case hr => first | (go_simp; done) | (go_simp; rfl)); intro g4 hg w4 hbox hb; have GE4 := Aside0.mk (Nat.le_of_eq hg.symm); have BK4 := Aside0.mk hbox; have HX4 := Aside0.mk hb; clear hg hbox hb); have BK1c := Aside0.mk (blk_below BK1b.out HX4.out); have BKu := Aside0.mk (blk_below BKt.out HX4.out); have HB4 := Aside0.mk (below_then HB3.out HB3.out.size HX4.out); have HG4 := Aside0.mk (Nat.le_trans HB3.out.size GE4.out); (have hg4_0 : w4.cell? ⟨g4, 0, none⟩ = some (.bool false) := (blk_cell BK4.out 0).trans rfl; have hfg4_0 := blk_frozen BK4.out 0; have hg4_1 : w4.cell? ⟨g4, 1, none⟩ = some (.nilFunc) := (blk_cell BK4.out 1).trans rfl; have hfg4_1 := blk_frozen BK4.out 1; have hg4_2 : w4.cell? ⟨g4, 2, none⟩ = some (.nilFunc) := (blk_cell BK4.out 2).trans rfl; have hfg4_2 := blk_frozen BK4.out 2; have hg4_3 : w4.cell? ⟨g4, 3, none⟩ = some (.nilFunc) := (blk_cell BK4.out 3).trans rfl; have hfg4_3 := blk_frozen BK4.out 3); (have hg1_0 : w4.cell? ⟨g1, 0, none⟩ = some (.int .i64 k) := (blk_cell BK1c.out 0).trans rfl; have hfg1_0 := blk_frozen BK1c.out 0; have hg1_1 : w4.cell? ⟨g1, 1, none⟩ = some (.int .i64 c) := (blk_cell BK1c.out 1).trans rfl; have hfg1_1 := blk_frozen BK1c.out 1); (have hg_0 : w4.cell? ⟨g, 0, none⟩ = some (.int .i64 d) := (blk_cell BKu.out 0).trans rfl; have hfg_0 := blk_frozen BKu.out 0; have hg_1 : w4.cell? ⟨g, 1, none⟩ = some (.int .i64 m) := (blk_cell BKu.out 1).trans rfl; have hfg_1 := blk_frozen BKu.out 1); have hn14 : g1 ≠ g4 := (by have := blk_lt BK1b.out; have := GE4.out; omega); have hng4 : g ≠ g4 := (by have := blk_lt BKt.out; have := GE4.out; omega))
    | fail)
  go_ret
  exact ⟨rfl, (below_set (below_set (below_set (below_set HB4.out HG4.out) HG4.out) HG4.out) HG4.out)⟩
set_option maxRecDepth 100000 in
set_option maxHeartbeats 400000 in
theorem wrong_in (d m k c : Int) (g : Nat) (w : World) (b : Bool) (kb kc kd : Value) (HC : Knows k c #[.bool b, kb, kc, kd] true) (h2 : kb.oneCell' = true) (h3 : kc.oneCell' = true) (h4 : kd.oneCell' = true)
    (hs : w.heap[g]? = some (.cells #[.int .i64 d, .int .i64 m] 27 (0, 0))) (r : Bool) (hr : (if k = 1 then false else decide (c < 0 ∨ (if b then d else m) ≤ c)) = r) :
    Calls Try.prog 33 #[.agg #[.int .i64 k, .int .i64 c], .pointer (some ⟨g, 0, none⟩)] w fun e w' => e = .returned (.bool r) ∧ Below w.heap.size w w' := by
  have HSc := Aside0.mk hs
  have sb := store_fact h2
  have sc := store_fact h3
  have sd := store_fact h4
  clear h2 h3 h4 hs
  by_cases hk : k = 1
  · rw [if_pos hk] at hr
    subst hr
    have e1 : (k != 1) = false := by rw [hk]; rfl
    clear hk
    cases b
    all_goals
      go_enter Try.func33, Try.ntmps33
      go_wp2_with (first
    | (((with_reducible refine gate_dst (N := 2) rfl ?_); refine box_event ?hg (N := 2) ?hd (cs := #[.int .i64 k, .int .i64 c]) (t := 23) ?hr ?_; (case hd => rfl); (case hg => rfl); (case hr => first | (go_simp; done) | (go_simp; rfl)); intro g1 hg w1 hbox hb; have GE1 := Aside0.mk (Nat.le_of_eq hg.symm); have BK1 := Aside0.mk hbox; have HX1 := Aside0.mk hb; clear hg hbox hb); have BKs := Aside0.mk (blk_below HSc.out HX1.out); (have hg1_0 : w1.cell? ⟨g1, 0, none⟩ = some (.int .i64 k) := (blk_cell BK1.out 0).trans rfl; have hfg1_0 := blk_frozen BK1.out 0; have hg1_1 : w1.cell? ⟨g1, 1, none⟩ = some (.int .i64 c) := (blk_cell BK1.out 1).trans rfl; have hfg1_1 := blk_frozen BK1.out 1))
    | (go_at_call 27; refine (HC _).mono ?_; rintro e w3 ⟨rfl, hb3⟩; have BK1b := Aside0.mk (blk_below BK1.out hb3); have BKt := Aside0.mk (blk_below BKs.out hb3); have HB3 := Aside0.mk (below_then HX1.out HX1.out.size hb3); clear hb3; clear hg1_0 hfg1_0 hg1_1 hfg1_1)
    | (((with_reducible refine gate_dst (N := 4) rfl ?_); refine box_event ?hg (N := 4) ?hd (cs := #[.bool false, .nilFunc, .nilFunc, .nilFunc]) (t := 61) ?hr ?_; (case hd => rfl); (case hg => rfl); (case hr => first | (go_simp; done) | (go_simp; rfl)); intro g4 hg w4 hbox hb; have GE4 := Aside0.mk (Nat.le_of_eq hg.symm); have BK4 := Aside0.mk hbox; have HX4 := Aside0.mk hb; clear hg hbox hb); have BK1c := Aside0.mk (blk_below BK1b.out HX4.out); have BKu := Aside0.mk (blk_below BKt.out HX4.out); have HB4 := Aside0.mk (below_then HB3.out HB3.out.size HX4.out); have HG4 := Aside0.mk (Nat.le_trans HB3.out.size GE4.out); (have hg4_0 : w4.cell? ⟨g4, 0, none⟩ = some (.bool false) := (blk_cell BK4.out 0).trans rfl; have hfg4_0 := blk_frozen BK4.out 0; have hg4_1 : w4.cell? ⟨g4, 1, none⟩ = some (.nilFunc) := (blk_cell BK4.out 1).trans rfl; have hfg4_1 := blk_frozen BK4.out 1; have hg4_2 : w4.cell? ⟨g4, 2, none⟩ = some (.nilFunc) := (blk_cell BK4.out 2).trans rfl; have hfg4_2 := blk_frozen BK4.out 2; have hg4_3 : w4.cell? ⟨g4, 3, none⟩ = some (.nilFunc) := (blk_cell BK4.out 3).trans rfl; have hfg4_3 := blk_frozen BK4.out 3); (have hg1_0 : w4.cell? ⟨g1, 0, none⟩ = some (.int .i64 k) := (blk_cell BK1c.out 0).trans rfl; have hfg1_0 := blk_frozen BK1c.out 0; have hg1_1 : w4.cell? ⟨g1, 1, none⟩ = some (.int .i64 c) := (blk_cell BK1c.out 1).trans rfl; have hfg1_1 := blk_frozen BK1c.out 1); (have hg_0 : w4.cell? ⟨g, 0, none⟩ = some (.int .i64 d) := (blk_cell BKu.out 0).trans rfl; have hfg_0 := blk_frozen BKu.out 0; have hg_1 : w4.cell? ⟨g, 1, none⟩ = some (.int .i64 m) := (blk_cell BKu.out 1).trans rfl; have hfg_1 := blk_frozen BKu.out 1); have hn14 : g1 ≠ g4 := (by have := blk_lt BK1b.out; have := GE4.out; omega); have hng4 : g ≠ g4 := (by have := blk_lt BKt.out; have := GE4.out; omega))
    | fail)
      go_ret
      exact ⟨rfl, (below_set (below_set (below_set (below_set HB4.out HG4.out) HG4.out) HG4.out) HG4.out)⟩
  · rw [if_neg hk] at hr
    have e1 : (k != 1) = true := bne_iff_ne.2 hk
    clear hk
    by_cases hc : c < 0
    · rw [decide_eq_true (.inl hc)] at hr
      subst hr
      have e2 : decide (c < 0) = true := decide_eq_true hc
      clear hc
      cases b
      all_goals
        go_enter Try.func33, Try.ntmps33
        go_wp2_with (first
    | (((with_reducible refine gate_dst (N := 2) rfl ?_); refine box_event ?hg (N := 2) ?hd (cs := #[.int .i64 k, .int .i64 c]) (t := 23) ?hr ?_; (case hd => rfl); (case hg => rfl); (case hr => first | (go_simp; done) | (go_simp; rfl)); intro g1 hg w1 hbox hb; have GE1 := Aside0.mk (Nat.le_of_eq hg.symm); have BK1 := Aside0.mk hbox; have HX1 := Aside0.mk hb; clear hg hbox hb); have BKs := Aside0.mk (blk_below HSc.out HX1.out); (have hg1_0 : w1.cell? ⟨g1, 0, none⟩ = some (.int .i64 k) := (blk_cell BK1.out 0).trans rfl; have hfg1_0 := blk_frozen BK1.out 0; have hg1_1 : w1.cell? ⟨g1, 1, none⟩ = some (.int .i64 c) := (blk_cell BK1.out 1).trans rfl; have hfg1_1 := blk_frozen BK1.out 1))
    | (go_at_call 27; refine (HC _).mono ?_; rintro e w3 ⟨rfl, hb3⟩; have BK1b := Aside0.mk (blk_below BK1.out hb3); have BKt := Aside0.mk (blk_below BKs.out hb3); have HB3 := Aside0.mk (below_then HX1.out HX1.out.size hb3); clear hb3; clear hg1_0 hfg1_0 hg1_1 hfg1_1)
    | (((with_reducible refine gate_dst (N := 4) rfl ?_); refine box_event ?hg (N := 4) ?hd (cs := #[.bool false, .nilFunc, .nilFunc, .nilFunc]) (t := 61) ?hr ?_; (case hd => rfl); (case hg => rfl); (case hr => first | (go_simp; done) | (go_simp; rfl)); intro g4 hg w4 hbox hb; have GE4 := Aside0.mk (Nat.le_of_eq hg.symm); have BK4 := Aside0.mk hbox; have HX4 := Aside0.mk hb; clear hg hbox hb); have BK1c := Aside0.mk (blk_below BK1b.out HX4.out); have BKu := Aside0.mk (blk_below BKt.out HX4.out); have HB4 := Aside0.mk (below_then HB3.out HB3.out.size HX4.out); have HG4 := Aside0.mk (Nat.le_trans HB3.out.size GE4.out); (have hg4_0 : w4.cell? ⟨g4, 0, none⟩ = some (.bool false) := (blk_cell BK4.out 0).trans rfl; have hfg4_0 := blk_frozen BK4.out 0; have hg4_1 : w4.cell? ⟨g4, 1, none⟩ = some (.nilFunc) := (blk_cell BK4.out 1).trans rfl; have hfg4_1 := blk_frozen BK4.out 1; have hg4_2 : w4.cell? ⟨g4, 2, none⟩ = some (.nilFunc) := (blk_cell BK4.out 2).trans rfl; have hfg4_2 := blk_frozen BK4.out 2; have hg4_3 : w4.cell? ⟨g4, 3, none⟩ = some (.nilFunc) := (blk_cell BK4.out 3).trans rfl; have hfg4_3 := blk_frozen BK4.out 3); (have hg1_0 : w4.cell? ⟨g1, 0, none⟩ = some (.int .i64 k) := (blk_cell BK1c.out 0).trans rfl; have hfg1_0 := blk_frozen BK1c.out 0; have hg1_1 : w4.cell? ⟨g1, 1, none⟩ = some (.int .i64 c) := (blk_cell BK1c.out 1).trans rfl; have hfg1_1 := blk_frozen BK1c.out 1); (have hg_0 : w4.cell? ⟨g, 0, none⟩ = some (.int .i64 d) := (blk_cell BKu.out 0).trans rfl; have hfg_0 := blk_frozen BKu.out 0; have hg_1 : w4.cell? ⟨g, 1, none⟩ = some (.int .i64 m) := (blk_cell BKu.out 1).trans rfl; have hfg_1 := blk_frozen BKu.out 1); have hn14 : g1 ≠ g4 := (by have := blk_lt BK1b.out; have := GE4.out; omega); have hng4 : g ≠ g4 := (by have := blk_lt BKt.out; have := GE4.out; omega))
    | fail)
        go_ret
        exact ⟨rfl, (below_set (below_set (below_set (below_set HB4.out HG4.out) HG4.out) HG4.out) HG4.out)⟩
    · have e2 : decide (c < 0) = false := decide_eq_false hc
      cases b
      · simp only [Bool.false_eq_true, if_false] at hr
        have e3 : decide (m ≤ c) = r := by rw [← hr, Bool.eq_iff_iff, decide_eq_true_iff, decide_eq_true_iff]; omega
        clear hr hc
        cases r
        all_goals
          go_enter Try.func33, Try.ntmps33
          go_wp2_with (first
    | (((with_reducible refine gate_dst (N := 2) rfl ?_); refine box_event ?hg (N := 2) ?hd (cs := #[.int .i64 k, .int .i64 c]) (t := 23) ?hr ?_; (case hd => rfl); (case hg => rfl); (case hr => first | (go_simp; done) | (go_simp; rfl)); intro g1 hg w1 hbox hb; have GE1 := Aside0.mk (Nat.le_of_eq hg.symm); have BK1 := Aside0.mk hbox; have HX1 := Aside0.mk hb; clear hg hbox hb); have BKs := Aside0.mk (blk_below HSc.out HX1.out); (have hg1_0 : w1.cell? ⟨g1, 0, none⟩ = some (.int .i64 k) := (blk_cell BK1.out 0).trans rfl; have hfg1_0 := blk_frozen BK1.out 0; have hg1_1 : w1.cell? ⟨g1, 1, none⟩ = some (.int .i64 c) := (blk_cell BK1.out 1).trans rfl; have hfg1_1 := blk_frozen BK1.out 1))
    | (go_at_call 27; refine (HC _).mono ?_; rintro e w3 ⟨rfl, hb3⟩; have BK1b := Aside0.mk (blk_below BK1.out hb3); have BKt := Aside0.mk (blk_below BKs.out hb3); have HB3 := Aside0.mk (below_then HX1.out HX1.out.size hb3); clear hb3; clear hg1_0 hfg1_0 hg1_1 hfg1_1)
    | (((with_reducible refine gate_dst (N := 4) rfl ?_); refine box_event ?hg (N := 4) ?hd (cs := #[.bool false, .nilFunc, .nilFunc, .nilFunc]) (t := 61) ?hr ?_; (case hd => rfl); (case hg => rfl); (case hr => first | (go_simp; done) | (go_simp; rfl)); intro g4 hg w4 hbox hb; have GE4 := Aside0.mk (Nat.le_of_eq hg.symm); have BK4 := Aside0.mk hbox; have HX4 := Aside0.mk hb; clear hg hbox hb); have BK1c := Aside0.mk (blk_below BK1b.out HX4.out); have BKu := Aside0.mk (blk_below BKt.out HX4.out); have HB4 := Aside0.mk (below_then HB3.out HB3.out.size HX4.out); have HG4 := Aside0.mk (Nat.le_trans HB3.out.size GE4.out); (have hg4_0 : w4.cell? ⟨g4, 0, none⟩ = some (.bool false) := (blk_cell BK4.out 0).trans rfl; have hfg4_0 := blk_frozen BK4.out 0; have hg4_1 : w4.cell? ⟨g4, 1, none⟩ = some (.nilFunc) := (blk_cell BK4.out 1).trans rfl; have hfg4_1 := blk_frozen BK4.out 1; have hg4_2 : w4.cell? ⟨g4, 2, none⟩ = some (.nilFunc) := (blk_cell BK4.out 2).trans rfl; have hfg4_2 := blk_frozen BK4.out 2; have hg4_3 : w4.cell? ⟨g4, 3, none⟩ = some (.nilFunc) := (blk_cell BK4.out 3).trans rfl; have hfg4_3 := blk_frozen BK4.out 3); (have hg1_0 : w4.cell? ⟨g1, 0, none⟩ = some (.int .i64 k) := (blk_cell BK1c.out 0).trans rfl; have hfg1_0 := blk_frozen BK1c.out 0; have hg1_1 : w4.cell? ⟨g1, 1, none⟩ = some (.int .i64 c) := (blk_cell BK1c.out 1).trans rfl; have hfg1_1 := blk_frozen BK1c.out 1); (have hg_0 : w4.cell? ⟨g, 0, none⟩ = some (.int .i64 d) := (blk_cell BKu.out 0).trans rfl; have hfg_0 := blk_frozen BKu.out 0; have hg_1 : w4.cell? ⟨g, 1, none⟩ = some (.int .i64 m) := (blk_cell BKu.out 1).trans rfl; have hfg_1 := blk_frozen BKu.out 1); have hn14 : g1 ≠ g4 := (by have := blk_lt BK1b.out; have := GE4.out; omega); have hng4 : g ≠ g4 := (by have := blk_lt BKt.out; have := GE4.out; omega))
    | fail)
          go_ret
          exact ⟨rfl, (below_set (below_set (below_set (below_set HB4.out HG4.out) HG4.out) HG4.out) HG4.out)⟩
      · simp only [if_true] at hr
        have e3 : decide (d ≤ c) = r := by rw [← hr, Bool.eq_iff_iff, decide_eq_true_iff, decide_eq_true_iff]; omega
        clear hr hc
        cases r
        all_goals
          go_enter Try.func33, Try.ntmps33
          go_wp2_with (first
    | (((with_reducible refine gate_dst (N := 2) rfl ?_); refine box_event ?hg (N := 2) ?hd (cs := #[.int .i64 k, .int .i64 c]) (t := 23) ?hr ?_; (case hd => rfl); (case hg => rfl); (case hr => first | (go_simp; done) | (go_simp; rfl)); intro g1 hg w1 hbox hb; have GE1 := Aside0.mk (Nat.le_of_eq hg.symm); have BK1 := Aside0.mk hbox; have HX1 := Aside0.mk hb; clear hg hbox hb); have BKs := Aside0.mk (blk_below HSc.out HX1.out); (have hg1_0 : w1.cell? ⟨g1, 0, none⟩ = some (.int .i64 k) := (blk_cell BK1.out 0).trans rfl; have hfg1_0 := blk_frozen BK1.out 0; have hg1_1 : w1.cell? ⟨g1, 1, none⟩ = some (.int .i64 c) := (blk_cell BK1.out 1).trans rfl; have hfg1_1 := blk_frozen BK1.out 1))
    | (go_at_call 27; refine (HC _).mono ?_; rintro e w3 ⟨rfl, hb3⟩; have BK1b := Aside0.mk (blk_below BK1.out hb3); have BKt := Aside0.mk (blk_below BKs.out hb3); have HB3 := Aside0.mk (below_then HX1.out HX1.out.size hb3); clear hb3; clear hg1_0 hfg1_0 hg1_1 hfg1_1)
    | (((with_reducible refine gate_dst (N := 4) rfl ?_); refine box_event ?hg (N := 4) ?hd (cs := #[.bool false, .nilFunc, .nilFunc, .nilFunc]) (t := 61) ?hr ?_; (case hd => rfl); (case hg => rfl); (case hr => first | (go_simp; done) | (go_simp; rfl)); intro g4 hg w4 hbox hb; have GE4 := Aside0.mk (Nat.le_of_eq hg.symm); have BK4 := Aside0.mk hbox; have HX4 := Aside0.mk hb; clear hg hbox hb); have BK1c := Aside0.mk (blk_below BK1b.out HX4.out); have BKu := Aside0.mk (blk_below BKt.out HX4.out); have HB4 := Aside0.mk (below_then HB3.out HB3.out.size HX4.out); have HG4 := Aside0.mk (Nat.le_trans HB3.out.size GE4.out); (have hg4_0 : w4.cell? ⟨g4, 0, none⟩ = some (.bool false) := (blk_cell BK4.out 0).trans rfl; have hfg4_0 := blk_frozen BK4.out 0; have hg4_1 : w4.cell? ⟨g4, 1, none⟩ = some (.nilFunc) := (blk_cell BK4.out 1).trans rfl; have hfg4_1 := blk_frozen BK4.out 1; have hg4_2 : w4.cell? ⟨g4, 2, none⟩ = some (.nilFunc) := (blk_cell BK4.out 2).trans rfl; have hfg4_2 := blk_frozen BK4.out 2; have hg4_3 : w4.cell? ⟨g4, 3, none⟩ = some (.nilFunc) := (blk_cell BK4.out 3).trans rfl; have hfg4_3 := blk_frozen BK4.out 3); (have hg1_0 : w4.cell? ⟨g1, 0, none⟩ = some (.int .i64 k) := (blk_cell BK1c.out 0).trans rfl; have hfg1_0 := blk_frozen BK1c.out 0; have hg1_1 : w4.cell? ⟨g1, 1, none⟩ = some (.int .i64 c) := (blk_cell BK1c.out 1).trans rfl; have hfg1_1 := blk_frozen BK1c.out 1); (have hg_0 : w4.cell? ⟨g, 0, none⟩ = some (.int .i64 d) := (blk_cell BKu.out 0).trans rfl; have hfg_0 := blk_frozen BKu.out 0; have hg_1 : w4.cell? ⟨g, 1, none⟩ = some (.int .i64 m) := (blk_cell BKu.out 1).trans rfl; have hfg_1 := blk_frozen BKu.out 1); have hn14 : g1 ≠ g4 := (by have := blk_lt BK1b.out; have := GE4.out; omega); have hng4 : g ≠ g4 := (by have := blk_lt BKt.out; have := GE4.out; omega))
    | fail)
          go_ret
          exact ⟨rfl, (below_set (below_set (below_set (below_set HB4.out HG4.out) HG4.out) HG4.out) HG4.out)⟩
theorem wrong_calls (d m k c : Int) (g : Nat) (w : World) (hs : w.heap[g]? = some (.cells #[.int .i64 d, .int .i64 m] 27 (0, 0))) :
    Calls Try.prog 33 #[.agg #[.int .i64 k, .int .i64 c], .pointer (some ⟨g, 0, none⟩)] w fun e w' => e = .returned (.bool (wrongB d m k c)) ∧ Below w.heap.size w w' := by
  unfold wrongB
  by_cases ho : k < 1 ∨ 5 < k
  · rw [if_pos ho]
    exact wrong_out d m k c g w (knows_out ho) hs
  · rw [if_neg ho]
    have hk : k = 1 ∨ k = 2 ∨ k = 3 ∨ k = 4 ∨ k = 5 := by omega
    rcases hk with rfl | rfl | rfl | rfl | rfl
    · exact wrong_in d m 1 c g w false _ _ _ (knows_in (by omega) (by omega) rfl) rfl rfl rfl hs _ rfl
    · exact wrong_in d m 2 c g w false _ _ _ (knows_in (by omega) (by omega) rfl) rfl rfl rfl hs _ rfl
    · exact wrong_in d m 3 c g w false _ _ _ (knows_in (by omega) (by omega) rfl) rfl rfl rfl hs _ rfl
    · exact wrong_in d m 4 c g w false _ _ _ (knows_in (by omega) (by omega) rfl) rfl rfl rfl hs _ rfl
    · exact wrong_in d m 5 c g w true _ _ _ (knows_in (by omega) (by omega) rfl) rfl rfl rfl hs _ rfl
def anyWrong (d m : Int) (l : List S23) : Bool := l.any fun a => wrongB d m a.f0 a.f1
theorem anyWrong_take (d m : Int) (l : List S23) (k : Nat) (h : k < l.length) : anyWrong d m (l.take (k + 1)) = (anyWrong d m (l.take k) || wrongB d m (rd_T23 l k).f0 (rd_T23 l k).f1) := by
  unfold anyWrong rd_T23
  rw [List.take_succ_eq_append_getElem h, List.any_append, Int.toNat_natCast, List.getD_eq_getElem?_getD, List.getElem?_eq_getElem h]
  simp
set_option maxRecDepth 100000 in
set_option maxHeartbeats 3200000 in
theorem index_wrong (d m : Int) (l : List S23) (A : Option Addr) (c g : Nat) (w : World) (hC : Kd.C k23 w A l.length l) (hs : w.heap[g]? = some (.cells #[.int .i64 d, .int .i64 m] 27 (0, 0))) :
    Calls Try.prog 44 #[.slice A l.length c, .func (.func 33) #[] #[.pointer (some ⟨g, 0, none⟩)]] w fun e w' => (∃ k : Int, e = .returned (.int .i64 k) ∧ decide (0 ≤ k) = anyWrong d m l) ∧ Below w.heap.size w w' := by
  have HC := Aside0.mk hC
  have HS := Aside0.mk hs
  have hn := hC.2.1
  clear hC hs
  go_enter Try.func44, Try.ntmps44
  go_wp2_with fail
  go_loopw [8] (fun kv w' => ∃ k : Nat, k ≤ l.length ∧ kv = .int .i64 k ∧ Aside0 (anyWrong d m (l.take k) = false) ∧ Aside0 (Below w.heap.size w w')) (fun kv _ => l.length - (intOf kv).toNat)
  case atStart => exact ⟨0, Nat.zero_le _, rfl, ⟨by simp [anyWrong]⟩, ⟨Below.refl _ _⟩⟩
  case round =>
    obtain ⟨k, hk, rfl, HT, HB⟩ := hrel
    by_cases hlt : k < l.length
    · obtain ⟨ad, e, h0, h1⟩ := at_T23 (Kd.C_below HC.out HB.out) (k : Int) (by omega) (by omega)
      subst e
      have HStep := Aside0.mk (anyWrong_take d m l k hlt)
      have hbk := Aside0.mk (blk_below HS.out HB.out)
      rw [Int.toNat_natCast] at h0 h1
      have hki : (k : Int) < (l.length : Int) := by omega
      have HAll := Aside0.mk (show anyWrong d m (l.take (k + 1)) = true → anyWrong d m l = true by
        unfold anyWrong
        intro h
        rw [List.any_eq_true] at h ⊢
        obtain ⟨x, hx, h⟩ := h
        exact ⟨x, List.mem_of_mem_take hx, h⟩)
      go_wp2_with fail
      refine (wrong_calls d m _ _ g _ hbk.out).mono ?_
      rintro e w1 ⟨rfl, hb1⟩
      have HB1 := Aside0.mk (below_then HB.out HB.out.size hb1)
      clear hb1 h0 h1
      have HS2 := Aside0.mk (show anyWrong d m (l.take (k + 1)) = wrongB d m (rd_T23 l k).f0 (rd_T23 l k).f1 by rw [HStep.out, HT.out]; rfl)
      obtain ⟨b, hb⟩ : ∃ b, wrongB d m (rd_T23 l k).f0 (rd_T23 l k).f1 = b := ⟨_, rfl⟩
      rw [hb] at HS2 ⊢
      clear hb
      cases b
      · go_wp2_with fail
        go_roundw
        case rel => exact ⟨k + 1, by omega, by go_num, HS2, HB1⟩
        case measure => simp [intOf]; omega
      · go_wp2_with fail
        go_ret
        exact ⟨⟨(k : Int), rfl, by rw [HAll.out HS2.out]; exact decide_eq_true (by omega)⟩, HB1.out⟩
    · obtain rfl : k = l.length := by omega
      have HE := Aside0.mk (show anyWrong d m l = false by have h := HT.out; rw [List.take_length] at h; exact h)
      go_wp2_with fail
      go_ret
      exact ⟨⟨-1, rfl, by rw [HE.out]; rfl⟩, HB.out⟩
set_option maxRecDepth 100000 in
set_option maxHeartbeats 400000 in
theorem contains_wrong (d m : Int) (l : List S23) (A : Option Addr) (c g : Nat) (w : World) (hC : Kd.C k23 w A l.length l) (hs : w.heap[g]? = some (.cells #[.int .i64 d, .int .i64 m] 27 (0, 0))) :
    Calls Try.prog 34 #[.slice A l.length c, .func (.func 33) #[] #[.pointer (some ⟨g, 0, none⟩)]] w fun e w' => e = .returned (.bool (anyWrong d m l)) ∧ Below w.heap.size w w' := by
  have H := Aside0.mk (index_wrong d m l A c g w hC hs)
  clear hC hs
  go_enter Try.func34, Try.ntmps34
  go_wp2_with fail
  refine H.out.mono ?_
  rintro e w1 ⟨⟨k, rfl, hk⟩, hb⟩
  have HK := Aside0.mk hk
  have HB := Aside0.mk hb
  clear hk hb
  go_wp2_with fail
  go_ret
  exact ⟨by rw [← HK.out]; rfl, HB.out⟩
def agg_Check.f (a0_0 a0_1 : Int) (l1 : List S23) : Option Int := some (if 16 < l1.length then 1 else if anyWrong a0_0 a0_1 l1 then 1 else 0)
set_option maxRecDepth 100000 in
set_option maxHeartbeats 400000 in
theorem agg_Check.calls (a0_0 a0_1 : Int) (A1 : Option Addr) (c1 : Nat) (l1 : List S23) (r : Int) (w : World) (hr1 : Kd.C k23 w A1 l1.length l1) (hc1 : l1.length ≤ c1) (h : agg_Check.f a0_0 a0_1 l1 = some r) :
    Calls Try.prog 21 #[.agg #[.int .i64 a0_0, .int .i64 a0_1], .slice A1 l1.length c1] w fun e w' => e = .returned (.int .i64 r) ∧ Below w.heap.size w w' := by
  unfold agg_Check.f at h
  injection h with h
  have HC := Aside0.mk hr1
  by_cases hbig : 16 < l1.length
  · rw [if_pos hbig] at h
    subst h
    have e1 : decide ((16 : Int) < (l1.length : Int)) = true := decide_eq_true (by omega)
    have e2 : decide (16 < l1.length) = true := decide_eq_true hbig
    clear hbig hr1 hc1
    go_enter Try.func21, Try.ntmps21
    go_wp2_with (first
      | ((with_reducible refine gate_dst (N := 2) rfl ?_); refine box_event ?hg (N := 2) ?hd (cs := #[.int .i64 a0_0, .int .i64 a0_1]) (t := 27) ?hr ?_; (case hd => rfl); (case hg => rfl); (case hr => first | (go_simp; done) | (go_simp; rfl)); intro g1 hg w1 hbox hb; have GE1 := Aside0.mk (Nat.le_of_eq hg.symm); have BK1 := Aside0.mk hbox; have HX1 := Aside0.mk hb; clear hg hbox hb)
      | fail)
    go_ret
    exact ⟨rfl, HX1.out⟩
  · rw [if_neg hbig] at h
    have e1 : decide ((16 : Int) < (l1.length : Int)) = false := decide_eq_false (by omega)
    have e2 : decide (16 < l1.length) = false := decide_eq_false hbig
    have HH := Aside0.mk h
    clear hbig hr1 hc1 h
    go_enter Try.func21, Try.ntmps21
    go_wp2_with (first
      | ((with_reducible refine gate_dst (N := 2) rfl ?_); refine box_event ?hg (N := 2) ?hd (cs := #[.int .i64 a0_0, .int .i64 a0_1]) (t := 27) ?hr ?_; (case hd => rfl); (case hg => rfl); (case hr => first | (go_simp; done) | (go_simp; rfl)); intro g1 hg w1 hbox hb; have GE1 := Aside0.mk (Nat.le_of_eq hg.symm); have BK1 := Aside0.mk hbox; have HX1 := Aside0.mk hb; clear hg hbox hb)
      | fail)
    refine (contains_wrong a0_0 a0_1 l1 A1 c1 g1 _ (Kd.C_below HC.out HX1.out) BK1.out).mono ?_
    rintro e w2 ⟨rfl, hb2⟩
    have HB2 := Aside0.mk (below_then HX1.out HX1.out.size hb2)
    clear hb2
    cases hw : anyWrong a0_0 a0_1 l1
    · rw [hw] at HH
      obtain rfl := HH.out
      clear hw
      go_wp2_with fail
      go_ret
      exact ⟨rfl, HB2.out⟩
    · rw [hw] at HH
      obtain rfl := HH.out
      clear hw
      go_wp2_with fail
      go_ret
      exact ⟨rfl, HB2.out⟩
end Go.Proofs.Ytmjhgeinhhhodaa.P
end

section
namespace Go.Proofs.Ytmjhgeinhhhodaa.Txt
set_option linter.unusedVariables false
theorem rises_same : ∀ {l m : List T}, l.Pairwise (· < ·) → m.Pairwise (· < ·) → (∀ y, y ∈ l ↔ y ∈ m) → l = m
  | [], [], _, _, _ => rfl
  | [], y :: m, _, _, h => absurd ((h y).2 (by simp)) (by simp)
  | x :: l, [], _, _, h => absurd ((h x).1 (by simp)) (by simp)
  | x :: l, y :: m, h1, h2, h => by
    rw [List.pairwise_cons] at h1 h2
    have e : x = y := by
      have a := (h x).1 (by simp)
      have b := (h y).2 (by simp)
      rw [List.mem_cons] at a b
      rcases a with a | a
      · exact a
      · rcases b with b | b
        · exact b.symm
        · exact absurd (lt_trans (h1.1 y b) (h2.1 x a)) (lt_irrefl x)
    subst e
    congr 1
    refine rises_same h1.2 h2.2 (fun z => ?_)
    constructor
    · intro hz
      have := (h z).1 (by simp [hz])
      rw [List.mem_cons] at this
      rcases this with rfl | h3
      · exact absurd (h1.1 z hz) (lt_irrefl z)
      · exact h3
    · intro hz
      have := (h z).2 (by simp [hz])
      rw [List.mem_cons] at this
      rcases this with rfl | h3
      · exact absurd (h2.1 z hz) (lt_irrefl z)
      · exact h3
end Go.Proofs.Ytmjhgeinhhhodaa.Txt
end
