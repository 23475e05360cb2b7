/- Aggregators looked at: what agg.Check answers. -/
import Derived.Test.YtmjhgeinhhhodaaExtValue
namespace Go.Proofs.Ytmjhgeinhhhodaa.P
set_option linter.unusedVariables false
set_option linter.unusedSimpArgs false
open Go.RowKit Go.Proofs.YtmjhgeinhhhodaaW.PrintWords Go.Proofs.YtmjhgeinhhhodaaW.PrintLast Go.Proofs.YtmjhgeinhhhodaaW.PrintMore Go.Proofs.Ytmjhgeinhhhodaa.Lib

/-- may an aggregator not be? -/
def wrongB (d m k c : Int) : Bool := if k < 1 ∨ 5 < k then true else if k = 1 then false else decide (c < 0 ∨ (if k = 5 then d else m) ≤ c)
set_option maxRecDepth 100000 in
set_option maxHeartbeats 400000 in
theorem wrong_out (d m k c : Int) (g : Nat) (w : World) (HC : Knows k c #[.bool false, .nilFunc, .nilFunc, .nilFunc] false) (hs : w.heap[g]? = some (.cells #[.int .i64 d, .int .i64 m] 27 (0, 0))) :
    Calls Try.prog 33 #[.agg #[.int .i64 k, .int .i64 c], .pointer (some ⟨g, 0, none⟩)] w fun e w' => e = .returned (.bool true) ∧ Below w.heap.size w w' := by
  have HSc := Aside0.mk hs
  clear hs
  go_enter Try.func33, Try.ntmps33
  go_wp2_with (first
    | (((with_reducible refine gate_dst (N := 2) rfl ?_); refine box_event ?hg (N := 2) ?hd (cs := #[.int .i64 k, .int .i64 c]) (t := 23) ?hr ?_; (case hd => rfl); (case hg => rfl); (case hr => first | (go_simp; done) | (go_simp; rfl)); intro g1 hg w1 hbox hb; have GE1 := Aside0.mk (Nat.le_of_eq hg.symm); have BK1 := Aside0.mk hbox; have HX1 := Aside0.mk hb; clear hg hbox hb); have BKs := Aside0.mk (blk_below HSc.out HX1.out); (have hg1_0 : w1.cell? ⟨g1, 0, none⟩ = some (.int .i64 k) := (blk_cell BK1.out 0).trans rfl; have hfg1_0 := blk_frozen BK1.out 0; have hg1_1 : w1.cell? ⟨g1, 1, none⟩ = some (.int .i64 c) := (blk_cell BK1.out 1).trans rfl; have hfg1_1 := blk_frozen BK1.out 1))
    | (go_at_call 27; refine (HC _).mono ?_; rintro e w3 ⟨rfl, hb3⟩; have BK1b := Aside0.mk (blk_below BK1.out hb3); have BKt := Aside0.mk (blk_below BKs.out hb3); have HB3 := Aside0.mk (below_then HX1.out HX1.out.size hb3); clear hb3; clear hg1_0 hfg1_0 hg1_1 hfg1_1)
    | (((with_reducible refine gate_dst (N := 4) rfl ?_); refine box_event ?hg (N := 4) ?hd (cs := #[.bool false, .nilFunc, .nilFunc, .nilFunc]) (t := 61) ?hr ?_; (case hd => rfl); (case hg => rfl); (case hr => first | (go_simp; done) | (go_simp; rfl)); intro g4 hg w4 hbox hb; have GE4 := Aside0.mk (Nat.le_of_eq hg.symm); have BK4 := Aside0.mk hbox; have HX4 := Aside0.mk hb; clear hg hbox hb); have BK1c := Aside0.mk (blk_below BK1b.out HX4.out); have BKu := Aside0.mk (blk_below BKt.out HX4.out); have HB4 := Aside0.mk (below_then HB3.out HB3.out.size HX4.out); have HG4 := Aside0.mk (Nat.le_trans HB3.out.size GE4.out); (have hg4_0 : w4.cell? ⟨g4, 0, none⟩ = some (.bool false) := (blk_cell BK4.out 0).trans rfl; have hfg4_0 := blk_frozen BK4.out 0; have hg4_1 : w4.cell? ⟨g4, 1, none⟩ = some (.nilFunc) := (blk_cell BK4.out 1).trans rfl; have hfg4_1 := blk_frozen BK4.out 1; have hg4_2 : w4.cell? ⟨g4, 2, none⟩ = some (.nilFunc) := (blk_cell BK4.out 2).trans rfl; have hfg4_2 := blk_frozen BK4.out 2; have hg4_3 : w4.cell? ⟨g4, 3, none⟩ = some (.nilFunc) := (blk_cell BK4.out 3).trans rfl; have hfg4_3 := blk_frozen BK4.out 3); (have hg1_0 : w4.cell? ⟨g1, 0, none⟩ = some (.int .i64 k) := (blk_cell BK1c.out 0).trans rfl; have hfg1_0 := blk_frozen BK1c.out 0; have hg1_1 : w4.cell? ⟨g1, 1, none⟩ = some (.int .i64 c) := (blk_cell BK1c.out 1).trans rfl; have hfg1_1 := blk_frozen BK1c.out 1); (have hg_0 : w4.cell? ⟨g, 0, none⟩ = some (.int .i64 d) := (blk_cell BKu.out 0).trans rfl; have hfg_0 := blk_frozen BKu.out 0; have hg_1 : w4.cell? ⟨g, 1, none⟩ = some (.int .i64 m) := (blk_cell BKu.out 1).trans rfl; have hfg_1 := blk_frozen BKu.out 1); have hn14 : g1 ≠ g4 := (by have := blk_lt BK1b.out; have := GE4.out; omega); have hng4 : g ≠ g4 := (by have := blk_lt BKt.out; have := GE4.out; omega))
    | fail)
  go_ret
  exact ⟨rfl, (below_set (below_set (below_set (below_set HB4.out HG4.out) HG4.out) HG4.out) HG4.out)⟩
set_option maxRecDepth 100000 in
set_option maxHeartbeats 400000 in
theorem wrong_in (d m k c : Int) (g : Nat) (w : World) (b : Bool) (kb kc kd : Value) (HC : Knows k c #[.bool b, kb, kc, kd] true) (h2 : kb.oneCell' = true) (h3 : kc.oneCell' = true) (h4 : kd.oneCell' = true)
    (hs : w.heap[g]? = some (.cells #[.int .i64 d, .int .i64 m] 27 (0, 0))) (r : Bool) (hr : (if k = 1 then false else decide (c < 0 ∨ (if b then d else m) ≤ c)) = r) :
    Calls Try.prog 33 #[.agg #[.int .i64 k, .int .i64 c], .pointer (some ⟨g, 0, none⟩)] w fun e w' => e = .returned (.bool r) ∧ Below w.heap.size w w' := by
  have HSc := Aside0.mk hs
  have sb := store_fact h2
  have sc := store_fact h3
  have sd := store_fact h4
  clear h2 h3 h4 hs
  by_cases hk : k = 1
  · rw [if_pos hk] at hr
    subst hr
    have e1 : (k != 1) = false := by rw [hk]; rfl
    clear hk
    cases b
    all_goals
      go_enter Try.func33, Try.ntmps33
      go_wp2_with (first
    | (((with_reducible refine gate_dst (N := 2) rfl ?_); refine box_event ?hg (N := 2) ?hd (cs := #[.int .i64 k, .int .i64 c]) (t := 23) ?hr ?_; (case hd => rfl); (case hg => rfl); (case hr => first | (go_simp; done) | (go_simp; rfl)); intro g1 hg w1 hbox hb; have GE1 := Aside0.mk (Nat.le_of_eq hg.symm); have BK1 := Aside0.mk hbox; have HX1 := Aside0.mk hb; clear hg hbox hb); have BKs := Aside0.mk (blk_below HSc.out HX1.out); (have hg1_0 : w1.cell? ⟨g1, 0, none⟩ = some (.int .i64 k) := (blk_cell BK1.out 0).trans rfl; have hfg1_0 := blk_frozen BK1.out 0; have hg1_1 : w1.cell? ⟨g1, 1, none⟩ = some (.int .i64 c) := (blk_cell BK1.out 1).trans rfl; have hfg1_1 := blk_frozen BK1.out 1))
    | (go_at_call 27; refine (HC _).mono ?_; rintro e w3 ⟨rfl, hb3⟩; have BK1b := Aside0.mk (blk_below BK1.out hb3); have BKt := Aside0.mk (blk_below BKs.out hb3); have HB3 := Aside0.mk (below_then HX1.out HX1.out.size hb3); clear hb3; clear hg1_0 hfg1_0 hg1_1 hfg1_1)
    | (((with_reducible refine gate_dst (N := 4) rfl ?_); refine box_event ?hg (N := 4) ?hd (cs := #[.bool false, .nilFunc, .nilFunc, .nilFunc]) (t := 61) ?hr ?_; (case hd => rfl); (case hg => rfl); (case hr => first | (go_simp; done) | (go_simp; rfl)); intro g4 hg w4 hbox hb; have GE4 := Aside0.mk (Nat.le_of_eq hg.symm); have BK4 := Aside0.mk hbox; have HX4 := Aside0.mk hb; clear hg hbox hb); have BK1c := Aside0.mk (blk_below BK1b.out HX4.out); have BKu := Aside0.mk (blk_below BKt.out HX4.out); have HB4 := Aside0.mk (below_then HB3.out HB3.out.size HX4.out); have HG4 := Aside0.mk (Nat.le_trans HB3.out.size GE4.out); (have hg4_0 : w4.cell? ⟨g4, 0, none⟩ = some (.bool false) := (blk_cell BK4.out 0).trans rfl; have hfg4_0 := blk_frozen BK4.out 0; have hg4_1 : w4.cell? ⟨g4, 1, none⟩ = some (.nilFunc) := (blk_cell BK4.out 1).trans rfl; have hfg4_1 := blk_frozen BK4.out 1; have hg4_2 : w4.cell? ⟨g4, 2, none⟩ = some (.nilFunc) := (blk_cell BK4.out 2).trans rfl; have hfg4_2 := blk_frozen BK4.out 2; have hg4_3 : w4.cell? ⟨g4, 3, none⟩ = some (.nilFunc) := (blk_cell BK4.out 3).trans rfl; have hfg4_3 := blk_frozen BK4.out 3); (have hg1_0 : w4.cell? ⟨g1, 0, none⟩ = some (.int .i64 k) := (blk_cell BK1c.out 0).trans rfl; have hfg1_0 := blk_frozen BK1c.out 0; have hg1_1 : w4.cell? ⟨g1, 1, none⟩ = some (.int .i64 c) := (blk_cell BK1c.out 1).trans rfl; have hfg1_1 := blk_frozen BK1c.out 1); (have hg_0 : w4.cell? ⟨g, 0, none⟩ = some (.int .i64 d) := (blk_cell BKu.out 0).trans rfl; have hfg_0 := blk_frozen BKu.out 0; have hg_1 : w4.cell? ⟨g, 1, none⟩ = some (.int .i64 m) := (blk_cell BKu.out 1).trans rfl; have hfg_1 := blk_frozen BKu.out 1); have hn14 : g1 ≠ g4 := (by have := blk_lt BK1b.out; have := GE4.out; omega); have hng4 : g ≠ g4 := (by have := blk_lt BKt.out; have := GE4.out; omega))
    | fail)
      go_ret
      exact ⟨rfl, (below_set (below_set (below_set (below_set HB4.out HG4.out) HG4.out) HG4.out) HG4.out)⟩
  · rw [if_neg hk] at hr
    have e1 : (k != 1) = true := bne_iff_ne.2 hk
    clear hk
    by_cases hc : c < 0
    · rw [decide_eq_true (.inl hc)] at hr
      subst hr
      have e2 : decide (c < 0) = true := decide_eq_true hc
      clear hc
      cases b
      all_goals
        go_enter Try.func33, Try.ntmps33
        go_wp2_with (first
    | (((with_reducible refine gate_dst (N := 2) rfl ?_); refine box_event ?hg (N := 2) ?hd (cs := #[.int .i64 k, .int .i64 c]) (t := 23) ?hr ?_; (case hd => rfl); (case hg => rfl); (case hr => first | (go_simp; done) | (go_simp; rfl)); intro g1 hg w1 hbox hb; have GE1 := Aside0.mk (Nat.le_of_eq hg.symm); have BK1 := Aside0.mk hbox; have HX1 := Aside0.mk hb; clear hg hbox hb); have BKs := Aside0.mk (blk_below HSc.out HX1.out); (have hg1_0 : w1.cell? ⟨g1, 0, none⟩ = some (.int .i64 k) := (blk_cell BK1.out 0).trans rfl; have hfg1_0 := blk_frozen BK1.out 0; have hg1_1 : w1.cell? ⟨g1, 1, none⟩ = some (.int .i64 c) := (blk_cell BK1.out 1).trans rfl; have hfg1_1 := blk_frozen BK1.out 1))
    | (go_at_call 27; refine (HC _).mono ?_; rintro e w3 ⟨rfl, hb3⟩; have BK1b := Aside0.mk (blk_below BK1.out hb3); have BKt := Aside0.mk (blk_below BKs.out hb3); have HB3 := Aside0.mk (below_then HX1.out HX1.out.size hb3); clear hb3; clear hg1_0 hfg1_0 hg1_1 hfg1_1)
    | (((with_reducible refine gate_dst (N := 4) rfl ?_); refine box_event ?hg (N := 4) ?hd (cs := #[.bool false, .nilFunc, .nilFunc, .nilFunc]) (t := 61) ?hr ?_; (case hd => rfl); (case hg => rfl); (case hr => first | (go_simp; done) | (go_simp; rfl)); intro g4 hg w4 hbox hb; have GE4 := Aside0.mk (Nat.le_of_eq hg.symm); have BK4 := Aside0.mk hbox; have HX4 := Aside0.mk hb; clear hg hbox hb); have BK1c := Aside0.mk (blk_below BK1b.out HX4.out); have BKu := Aside0.mk (blk_below BKt.out HX4.out); have HB4 := Aside0.mk (below_then HB3.out HB3.out.size HX4.out); have HG4 := Aside0.mk (Nat.le_trans HB3.out.size GE4.out); (have hg4_0 : w4.cell? ⟨g4, 0, none⟩ = some (.bool false) := (blk_cell BK4.out 0).trans rfl; have hfg4_0 := blk_frozen BK4.out 0; have hg4_1 : w4.cell? ⟨g4, 1, none⟩ = some (.nilFunc) := (blk_cell BK4.out 1).trans rfl; have hfg4_1 := blk_frozen BK4.out 1; have hg4_2 : w4.cell? ⟨g4, 2, none⟩ = some (.nilFunc) := (blk_cell BK4.out 2).trans rfl; have hfg4_2 := blk_frozen BK4.out 2; have hg4_3 : w4.cell? ⟨g4, 3, none⟩ = some (.nilFunc) := (blk_cell BK4.out 3).trans rfl; have hfg4_3 := blk_frozen BK4.out 3); (have hg1_0 : w4.cell? ⟨g1, 0, none⟩ = some (.int .i64 k) := (blk_cell BK1c.out 0).trans rfl; have hfg1_0 := blk_frozen BK1c.out 0; have hg1_1 : w4.cell? ⟨g1, 1, none⟩ = some (.int .i64 c) := (blk_cell BK1c.out 1).trans rfl; have hfg1_1 := blk_frozen BK1c.out 1); (have hg_0 : w4.cell? ⟨g, 0, none⟩ = some (.int .i64 d) := (blk_cell BKu.out 0).trans rfl; have hfg_0 := blk_frozen BKu.out 0; have hg_1 : w4.cell? ⟨g, 1, none⟩ = some (.int .i64 m) := (blk_cell BKu.out 1).trans rfl; have hfg_1 := blk_frozen BKu.out 1); have hn14 : g1 ≠ g4 := (by have := blk_lt BK1b.out; have := GE4.out; omega); have hng4 : g ≠ g4 := (by have := blk_lt BKt.out; have := GE4.out; omega))
    | fail)
        go_ret
        exact ⟨rfl, (below_set (below_set (below_set (below_set HB4.out HG4.out) HG4.out) HG4.out) HG4.out)⟩
    · have e2 : decide (c < 0) = false := decide_eq_false hc
      cases b
      · simp only [Bool.false_eq_true, if_false] at hr
        have e3 : decide (m ≤ c) = r := by rw [← hr, Bool.eq_iff_iff, decide_eq_true_iff, decide_eq_true_iff]; omega
        clear hr hc
        cases r
        all_goals
          go_enter Try.func33, Try.ntmps33
          go_wp2_with (first
    | (((with_reducible refine gate_dst (N := 2) rfl ?_); refine box_event ?hg (N := 2) ?hd (cs := #[.int .i64 k, .int .i64 c]) (t := 23) ?hr ?_; (case hd => rfl); (case hg => rfl); (case hr => first | (go_simp; done) | (go_simp; rfl)); intro g1 hg w1 hbox hb; have GE1 := Aside0.mk (Nat.le_of_eq hg.symm); have BK1 := Aside0.mk hbox; have HX1 := Aside0.mk hb; clear hg hbox hb); have BKs := Aside0.mk (blk_below HSc.out HX1.out); (have hg1_0 : w1.cell? ⟨g1, 0, none⟩ = some (.int .i64 k) := (blk_cell BK1.out 0).trans rfl; have hfg1_0 := blk_frozen BK1.out 0; have hg1_1 : w1.cell? ⟨g1, 1, none⟩ = some (.int .i64 c) := (blk_cell BK1.out 1).trans rfl; have hfg1_1 := blk_frozen BK1.out 1))
    | (go_at_call 27; refine (HC _).mono ?_; rintro e w3 ⟨rfl, hb3⟩; have BK1b := Aside0.mk (blk_below BK1.out hb3); have BKt := Aside0.mk (blk_below BKs.out hb3); have HB3 := Aside0.mk (below_then HX1.out HX1.out.size hb3); clear hb3; clear hg1_0 hfg1_0 hg1_1 hfg1_1)
    | (((with_reducible refine gate_dst (N := 4) rfl ?_); refine box_event ?hg (N := 4) ?hd (cs := #[.bool false, .nilFunc, .nilFunc, .nilFunc]) (t := 61) ?hr ?_; (case hd => rfl); (case hg => rfl); (case hr => first | (go_simp; done) | (go_simp; rfl)); intro g4 hg w4 hbox hb; have GE4 := Aside0.mk (Nat.le_of_eq hg.symm); have BK4 := Aside0.mk hbox; have HX4 := Aside0.mk hb; clear hg hbox hb); have BK1c := Aside0.mk (blk_below BK1b.out HX4.out); have BKu := Aside0.mk (blk_below BKt.out HX4.out); have HB4 := Aside0.mk (below_then HB3.out HB3.out.size HX4.out); have HG4 := Aside0.mk (Nat.le_trans HB3.out.size GE4.out); (have hg4_0 : w4.cell? ⟨g4, 0, none⟩ = some (.bool false) := (blk_cell BK4.out 0).trans rfl; have hfg4_0 := blk_frozen BK4.out 0; have hg4_1 : w4.cell? ⟨g4, 1, none⟩ = some (.nilFunc) := (blk_cell BK4.out 1).trans rfl; have hfg4_1 := blk_frozen BK4.out 1; have hg4_2 : w4.cell? ⟨g4, 2, none⟩ = some (.nilFunc) := (blk_cell BK4.out 2).trans rfl; have hfg4_2 := blk_frozen BK4.out 2; have hg4_3 : w4.cell? ⟨g4, 3, none⟩ = some (.nilFunc) := (blk_cell BK4.out 3).trans rfl; have hfg4_3 := blk_frozen BK4.out 3); (have hg1_0 : w4.cell? ⟨g1, 0, none⟩ = some (.int .i64 k) := (blk_cell BK1c.out 0).trans rfl; have hfg1_0 := blk_frozen BK1c.out 0; have hg1_1 : w4.cell? ⟨g1, 1, none⟩ = some (.int .i64 c) := (blk_cell BK1c.out 1).trans rfl; have hfg1_1 := blk_frozen BK1c.out 1); (have hg_0 : w4.cell? ⟨g, 0, none⟩ = some (.int .i64 d) := (blk_cell BKu.out 0).trans rfl; have hfg_0 := blk_frozen BKu.out 0; have hg_1 : w4.cell? ⟨g, 1, none⟩ = some (.int .i64 m) := (blk_cell BKu.out 1).trans rfl; have hfg_1 := blk_frozen BKu.out 1); have hn14 : g1 ≠ g4 := (by have := blk_lt BK1b.out; have := GE4.out; omega); have hng4 : g ≠ g4 := (by have := blk_lt BKt.out; have := GE4.out; omega))
    | fail)
          go_ret
          exact ⟨rfl, (below_set (below_set (below_set (below_set HB4.out HG4.out) HG4.out) HG4.out) HG4.out)⟩
      · simp only [if_true] at hr
        have e3 : decide (d ≤ c) = r := by rw [← hr, Bool.eq_iff_iff, decide_eq_true_iff, decide_eq_true_iff]; omega
        clear hr hc
        cases r
        all_goals
          go_enter Try.func33, Try.ntmps33
          go_wp2_with (first
    | (((with_reducible refine gate_dst (N := 2) rfl ?_); refine box_event ?hg (N := 2) ?hd (cs := #[.int .i64 k, .int .i64 c]) (t := 23) ?hr ?_; (case hd => rfl); (case hg => rfl); (case hr => first | (go_simp; done) | (go_simp; rfl)); intro g1 hg w1 hbox hb; have GE1 := Aside0.mk (Nat.le_of_eq hg.symm); have BK1 := Aside0.mk hbox; have HX1 := Aside0.mk hb; clear hg hbox hb); have BKs := Aside0.mk (blk_below HSc.out HX1.out); (have hg1_0 : w1.cell? ⟨g1, 0, none⟩ = some (.int .i64 k) := (blk_cell BK1.out 0).trans rfl; have hfg1_0 := blk_frozen BK1.out 0; have hg1_1 : w1.cell? ⟨g1, 1, none⟩ = some (.int .i64 c) := (blk_cell BK1.out 1).trans rfl; have hfg1_1 := blk_frozen BK1.out 1))
    | (go_at_call 27; refine (HC _).mono ?_; rintro e w3 ⟨rfl, hb3⟩; have BK1b := Aside0.mk (blk_below BK1.out hb3); have BKt := Aside0.mk (blk_below BKs.out hb3); have HB3 := Aside0.mk (below_then HX1.out HX1.out.size hb3); clear hb3; clear hg1_0 hfg1_0 hg1_1 hfg1_1)
    | (((with_reducible refine gate_dst (N := 4) rfl ?_); refine box_event ?hg (N := 4) ?hd (cs := #[.bool false, .nilFunc, .nilFunc, .nilFunc]) (t := 61) ?hr ?_; (case hd => rfl); (case hg => rfl); (case hr => first | (go_simp; done) | (go_simp; rfl)); intro g4 hg w4 hbox hb; have GE4 := Aside0.mk (Nat.le_of_eq hg.symm); have BK4 := Aside0.mk hbox; have HX4 := Aside0.mk hb; clear hg hbox hb); have BK1c := Aside0.mk (blk_below BK1b.out HX4.out); have BKu := Aside0.mk (blk_below BKt.out HX4.out); have HB4 := Aside0.mk (below_then HB3.out HB3.out.size HX4.out); have HG4 := Aside0.mk (Nat.le_trans HB3.out.size GE4.out); (have hg4_0 : w4.cell? ⟨g4, 0, none⟩ = some (.bool false) := (blk_cell BK4.out 0).trans rfl; have hfg4_0 := blk_frozen BK4.out 0; have hg4_1 : w4.cell? ⟨g4, 1, none⟩ = some (.nilFunc) := (blk_cell BK4.out 1).trans rfl; have hfg4_1 := blk_frozen BK4.out 1; have hg4_2 : w4.cell? ⟨g4, 2, none⟩ = some (.nilFunc) := (blk_cell BK4.out 2).trans rfl; have hfg4_2 := blk_frozen BK4.out 2; have hg4_3 : w4.cell? ⟨g4, 3, none⟩ = some (.nilFunc) := (blk_cell BK4.out 3).trans rfl; have hfg4_3 := blk_frozen BK4.out 3); (have hg1_0 : w4.cell? ⟨g1, 0, none⟩ = some (.int .i64 k) := (blk_cell BK1c.out 0).trans rfl; have hfg1_0 := blk_frozen BK1c.out 0; have hg1_1 : w4.cell? ⟨g1, 1, none⟩ = some (.int .i64 c) := (blk_cell BK1c.out 1).trans rfl; have hfg1_1 := blk_frozen BK1c.out 1); (have hg_0 : w4.cell? ⟨g, 0, none⟩ = some (.int .i64 d) := (blk_cell BKu.out 0).trans rfl; have hfg_0 := blk_frozen BKu.out 0; have hg_1 : w4.cell? ⟨g, 1, none⟩ = some (.int .i64 m) := (blk_cell BKu.out 1).trans rfl; have hfg_1 := blk_frozen BKu.out 1); have hn14 : g1 ≠ g4 := (by have := blk_lt BK1b.out; have := GE4.out; omega); have hng4 : g ≠ g4 := (by have := blk_lt BKt.out; have := GE4.out; omega))
    | fail)
          go_ret
          exact ⟨rfl, (below_set (below_set (below_set (below_set HB4.out HG4.out) HG4.out) HG4.out) HG4.out)⟩
theorem wrong_calls (d m k c : Int) (g : Nat) (w : World) (hs : w.heap[g]? = some (.cells #[.int .i64 d, .int .i64 m] 27 (0, 0))) :
    Calls Try.prog 33 #[.agg #[.int .i64 k, .int .i64 c], .pointer (some ⟨g, 0, none⟩)] w fun e w' => e = .returned (.bool (wrongB d m k c)) ∧ Below w.heap.size w w' := by
  unfold wrongB
  by_cases ho : k < 1 ∨ 5 < k
  · rw [if_pos ho]
    exact wrong_out d m k c g w (knows_out ho) hs
  · rw [if_neg ho]
    have hk : k = 1 ∨ k = 2 ∨ k = 3 ∨ k = 4 ∨ k = 5 := by omega
    rcases hk with rfl | rfl | rfl | rfl | rfl
    · exact wrong_in d m 1 c g w false _ _ _ (knows_in (by omega) (by omega) rfl) rfl rfl rfl hs _ rfl
    · exact wrong_in d m 2 c g w false _ _ _ (knows_in (by omega) (by omega) rfl) rfl rfl rfl hs _ rfl
    · exact wrong_in d m 3 c g w false _ _ _ (knows_in (by omega) (by omega) rfl) rfl rfl rfl hs _ rfl
    · exact wrong_in d m 4 c g w false _ _ _ (knows_in (by omega) (by omega) rfl) rfl rfl rfl hs _ rfl
    · exact wrong_in d m 5 c g w true _ _ _ (knows_in (by omega) (by omega) rfl) rfl rfl rfl hs _ rfl

def anyWrong (d m : Int) (l : List S23) : Bool := l.any fun a => wrongB d m a.f0 a.f1
theorem anyWrong_take (d m : Int) (l : List S23) (k : Nat) (h : k < l.length) : anyWrong d m (l.take (k + 1)) = (anyWrong d m (l.take k) || wrongB d m (rd_T23 l k).f0 (rd_T23 l k).f1) := by
  unfold anyWrong rd_T23
  rw [List.take_succ_eq_append_getElem h, List.any_append, Int.toNat_natCast, List.getD_eq_getElem?_getD, List.getElem?_eq_getElem h]
  simp
set_option maxRecDepth 100000 in
set_option maxHeartbeats 3200000 in
theorem index_wrong (d m : Int) (l : List S23) (A : Option Addr) (c g : Nat) (w : World) (hC : Kd.C k23 w A l.length l) (hs : w.heap[g]? = some (.cells #[.int .i64 d, .int .i64 m] 27 (0, 0))) :
    Calls Try.prog 44 #[.slice A l.length c, .func (.func 33) #[] #[.pointer (some ⟨g, 0, none⟩)]] w fun e w' => (∃ k : Int, e = .returned (.int .i64 k) ∧ decide (0 ≤ k) = anyWrong d m l) ∧ Below w.heap.size w w' := by
  have HC := Aside0.mk hC
  have HS := Aside0.mk hs
  have hn := hC.2.1
  clear hC hs
  go_enter Try.func44, Try.ntmps44
  go_wp2_with fail
  go_loopw [8] (fun kv w' => ∃ k : Nat, k ≤ l.length ∧ kv = .int .i64 k ∧ Aside0 (anyWrong d m (l.take k) = false) ∧ Aside0 (Below w.heap.size w w')) (fun kv _ => l.length - (intOf kv).toNat)
  case atStart => exact ⟨0, Nat.zero_le _, rfl, ⟨by simp [anyWrong]⟩, ⟨Below.refl _ _⟩⟩
  case round =>
    obtain ⟨k, hk, rfl, HT, HB⟩ := hrel
    by_cases hlt : k < l.length
    · obtain ⟨ad, e, h0, h1⟩ := at_T23 (Kd.C_below HC.out HB.out) (k : Int) (by omega) (by omega)
      subst e
      have HStep := Aside0.mk (anyWrong_take d m l k hlt)
      have hbk := Aside0.mk (blk_below HS.out HB.out)
      rw [Int.toNat_natCast] at h0 h1
      have hki : (k : Int) < (l.length : Int) := by omega
      have HAll := Aside0.mk (show anyWrong d m (l.take (k + 1)) = true → anyWrong d m l = true by
        unfold anyWrong
        intro h
        rw [List.any_eq_true] at h ⊢
        obtain ⟨x, hx, h⟩ := h
        exact ⟨x, List.mem_of_mem_take hx, h⟩)
      go_wp2_with fail
      refine (wrong_calls d m _ _ g _ hbk.out).mono ?_
      rintro e w1 ⟨rfl, hb1⟩
      have HB1 := Aside0.mk (below_then HB.out HB.out.size hb1)
      clear hb1 h0 h1
      have HS2 := Aside0.mk (show anyWrong d m (l.take (k + 1)) = wrongB d m (rd_T23 l k).f0 (rd_T23 l k).f1 by rw [HStep.out, HT.out]; rfl)
      obtain ⟨b, hb⟩ : ∃ b, wrongB d m (rd_T23 l k).f0 (rd_T23 l k).f1 = b := ⟨_, rfl⟩
      rw [hb] at HS2 ⊢
      clear hb
      cases b
      · go_wp2_with fail
        go_roundw
        case rel => exact ⟨k + 1, by omega, by go_num, HS2, HB1⟩
        case measure => simp [intOf]; omega
      · go_wp2_with fail
        go_ret
        exact ⟨⟨(k : Int), rfl, by rw [HAll.out HS2.out]; exact decide_eq_true (by omega)⟩, HB1.out⟩
    · obtain rfl : k = l.length := by omega
      have HE := Aside0.mk (show anyWrong d m l = false by have h := HT.out; rw [List.take_length] at h; exact h)
      go_wp2_with fail
      go_ret
      exact ⟨⟨-1, rfl, by rw [HE.out]; rfl⟩, HB.out⟩
set_option maxRecDepth 100000 in
set_option maxHeartbeats 400000 in
theorem contains_wrong (d m : Int) (l : List S23) (A : Option Addr) (c g : Nat) (w : World) (hC : Kd.C k23 w A l.length l) (hs : w.heap[g]? = some (.cells #[.int .i64 d, .int .i64 m] 27 (0, 0))) :
    Calls Try.prog 34 #[.slice A l.length c, .func (.func 33) #[] #[.pointer (some ⟨g, 0, none⟩)]] w fun e w' => e = .returned (.bool (anyWrong d m l)) ∧ Below w.heap.size w w' := by
  have H := Aside0.mk (index_wrong d m l A c g w hC hs)
  clear hC hs
  go_enter Try.func34, Try.ntmps34
  go_wp2_with fail
  refine H.out.mono ?_
  rintro e w1 ⟨⟨k, rfl, hk⟩, hb⟩
  have HK := Aside0.mk hk
  have HB := Aside0.mk hb
  clear hk hb
  go_wp2_with fail
  go_ret
  exact ⟨by rw [← HK.out]; rfl, HB.out⟩

def agg_Check.f (a0_0 a0_1 : Int) (l1 : List S23) : Option Int := some (if 16 < l1.length then 1 else if anyWrong a0_0 a0_1 l1 then 1 else 0)
set_option maxRecDepth 100000 in
set_option maxHeartbeats 400000 in
theorem agg_Check.calls (a0_0 a0_1 : Int) (A1 : Option Addr) (c1 : Nat) (l1 : List S23) (r : Int) (w : World) (hr1 : Kd.C k23 w A1 l1.length l1) (hc1 : l1.length ≤ c1) (h : agg_Check.f a0_0 a0_1 l1 = some r) :
    Calls Try.prog 21 #[.agg #[.int .i64 a0_0, .int .i64 a0_1], .slice A1 l1.length c1] w fun e w' => e = .returned (.int .i64 r) ∧ Below w.heap.size w w' := by
  unfold agg_Check.f at h
  injection h with h
  have HC := Aside0.mk hr1
  by_cases hbig : 16 < l1.length
  · rw [if_pos hbig] at h
    subst h
    have e1 : decide ((16 : Int) < (l1.length : Int)) = true := decide_eq_true (by omega)
    have e2 : decide (16 < l1.length) = true := decide_eq_true hbig
    clear hbig hr1 hc1
    go_enter Try.func21, Try.ntmps21
    go_wp2_with (first
      | ((with_reducible refine gate_dst (N := 2) rfl ?_); refine box_event ?hg (N := 2) ?hd (cs := #[.int .i64 a0_0, .int .i64 a0_1]) (t := 27) ?hr ?_; (case hd => rfl); (case hg => rfl); (case hr => first | (go_simp; done) | (go_simp; rfl)); intro g1 hg w1 hbox hb; have GE1 := Aside0.mk (Nat.le_of_eq hg.symm); have BK1 := Aside0.mk hbox; have HX1 := Aside0.mk hb; clear hg hbox hb)
      | fail)
    go_ret
    exact ⟨rfl, HX1.out⟩
  · rw [if_neg hbig] at h
    have e1 : decide ((16 : Int) < (l1.length : Int)) = false := decide_eq_false (by omega)
    have e2 : decide (16 < l1.length) = false := decide_eq_false hbig
    have HH := Aside0.mk h
    clear hbig hr1 hc1 h
    go_enter Try.func21, Try.ntmps21
    go_wp2_with (first
      | ((with_reducible refine gate_dst (N := 2) rfl ?_); refine box_event ?hg (N := 2) ?hd (cs := #[.int .i64 a0_0, .int .i64 a0_1]) (t := 27) ?hr ?_; (case hd => rfl); (case hg => rfl); (case hr => first | (go_simp; done) | (go_simp; rfl)); intro g1 hg w1 hbox hb; have GE1 := Aside0.mk (Nat.le_of_eq hg.symm); have BK1 := Aside0.mk hbox; have HX1 := Aside0.mk hb; clear hg hbox hb)
      | fail)
    refine (contains_wrong a0_0 a0_1 l1 A1 c1 g1 _ (Kd.C_below HC.out HX1.out) BK1.out).mono ?_
    rintro e w2 ⟨rfl, hb2⟩
    have HB2 := Aside0.mk (below_then HX1.out HX1.out.size hb2)
    clear hb2
    cases hw : anyWrong a0_0 a0_1 l1
    · rw [hw] at HH
      obtain rfl := HH.out
      clear hw
      go_wp2_with fail
      go_ret
      exact ⟨rfl, HB2.out⟩
    · rw [hw] at HH
      obtain rfl := HH.out
      clear hw
      go_wp2_with fail
      go_ret
      exact ⟨rfl, HB2.out⟩
end Go.Proofs.Ytmjhgeinhhhodaa.P
