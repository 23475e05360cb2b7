/- An aggregator's number: what agg.Value answers. -/
import Derived.Test.YtmjhgeinhhhodaaAggKinds
namespace Go.Proofs.Ytmjhgeinhhhodaa.P
set_option linter.unusedVariables false
set_option linter.unusedSimpArgs false
open Go.RowKit Go.Proofs.YtmjhgeinhhhodaaW.PrintWords Go.Proofs.YtmjhgeinhhhodaaW.PrintLast Go.Proofs.YtmjhgeinhhhodaaW.PrintMore Go.Proofs.Ytmjhgeinhhhodaa.Lib

set_option maxRecDepth 100000 in
set_option maxHeartbeats 400000 in
theorem val_count (n v : Int) (A : Option Addr) (l c : Nat) (w : World) :
    Calls Try.prog 48 #[.agg #[.int .u64 n, .int .i64 v, .slice A l c]] w fun e w' => e = .returned (.int .i64 (wrap64 n)) ∧ Below w.heap.size w w' := by
  go_enter Try.func48, Try.ntmps48
  go_wp2
  go_ret
  exact ⟨rfl, (Below.refl _ _).alloc (Nat.le_refl _) _⟩
set_option maxRecDepth 100000 in
set_option maxHeartbeats 400000 in
theorem val_v (n v : Int) (A : Option Addr) (l c : Nat) (w : World) :
    Calls Try.prog 51 #[.agg #[.int .u64 n, .int .i64 v, .slice A l c]] w fun e w' => e = .returned (.int .i64 v) ∧ Below w.heap.size w w' := by
  go_enter Try.func51, Try.ntmps51
  go_wp2
  go_ret
  exact ⟨rfl, (Below.refl _ _).alloc (Nat.le_refl _) _⟩
set_option maxRecDepth 100000 in
set_option maxHeartbeats 400000 in
theorem val_len (n v : Int) (A : Option Addr) (l c : Nat) (w : World) :
    Calls Try.prog 54 #[.agg #[.int .u64 n, .int .i64 v, .slice A l c]] w fun e w' => e = .returned (.int .i64 l) ∧ Below w.heap.size w w' := by
  go_enter Try.func54, Try.ntmps54
  go_wp2
  go_ret
  exact ⟨rfl, (Below.refl _ _).alloc (Nat.le_refl _) _⟩

def agg_Value.f (a0_0 : Int) (a0_1 : Int) (a1_0 : Int) (a1_1 : Int) (l1_2 : List ByteArray) : Option Int :=
  some (if a0_0 = 1 then wrap64 a1_0 else if a0_0 = 2 ∨ a0_0 = 3 ∨ a0_0 = 4 then a1_1 else if a0_0 = 5 then (l1_2.length : Int) else 0)

/-- A store of a value of one cell, as the walk wants it. -/
theorem store_fact {v : Value} (h : v.oneCell' = true) (u : World) (p : Addr) (m : Mode) : (store p v m).run Try.prog u = stored Try.prog u p v m := run_store Try.prog u p v m h
/-- agg.known answers these. -/
def Knows (k j : Int) (cells : Array Value) (th : Bool) : Prop := ∀ u, Calls Try.prog 27 #[.agg #[.int .i64 k, .int .i64 j]] u fun e w' => e = .returned (.tuple #[.agg cells, .bool th]) ∧ Below u.heap.size u w'
theorem knows_out {k j : Int} (h : k < 1 ∨ 5 < k) : Knows k j #[.bool false, .nilFunc, .nilFunc, .nilFunc] false := fun u => by
  have := known_out k j u h
  rw [kindCells_out h] at this
  exact this
theorem knows_in {k j : Int} {l : List Value} (h : 1 ≤ k) (h5 : k ≤ 5) (e : kindCells k = l) : Knows k j l.toArray true := fun u => by
  have := known_in k j u h h5
  rw [e] at this
  exact this

set_option maxRecDepth 100000 in
set_option maxHeartbeats 400000 in
theorem value_out (a0_0 : Int) (a0_1 : Int) (a1_0 : Int) (a1_1 : Int) (A1_2 : Option Addr) (c1_2 : Nat) (l : Nat) (w : World) (HC : Knows a0_0 a0_1 #[.bool false, .nilFunc, .nilFunc, .nilFunc] false) :
    Calls Try.prog 15 #[.agg #[.int .i64 a0_0, .int .i64 a0_1], .agg #[.int .u64 a1_0, .int .i64 a1_1, .slice A1_2 l c1_2]] w fun e w' => e = .returned (.int .i64 0) ∧ Below w.heap.size w w' := by
  go_enter Try.func15, Try.ntmps15
  go_wp2_with (first
    | ((with_reducible refine gate_dst (N := 2) rfl ?_); refine box_event ?hg (N := 2) ?hd (cs := #[.int .i64 a0_0, .int .i64 a0_1]) (t := 23) ?hr ?_; (case hd => rfl); (case hg => rfl); (case hr => first | (go_simp; done) | (go_simp; rfl)); intro g1 hg w1 hbox hb; have GE1 := Aside0.mk (Nat.le_of_eq hg.symm); have BK1 := Aside0.mk hbox; have HX1 := Aside0.mk hb; clear hg hbox hb)
    | (((with_reducible refine gate_dst (N := 3) rfl ?_); refine box_event ?hg (N := 3) ?hd (cs := #[.int .u64 a1_0, .int .i64 a1_1, .slice A1_2 l c1_2]) (t := 33) ?hr ?_; (case hd => rfl); (case hg => rfl); (case hr => first | (go_simp; done) | (go_simp; rfl)); intro g2 hg w2 hbox hb; have GE2 := Aside0.mk (Nat.le_of_eq hg.symm); have BK2 := Aside0.mk hbox; have HX2 := Aside0.mk hb; clear hg hbox hb); have BK1b := Aside0.mk (blk_below BK1.out HX2.out); have HB2 := Aside0.mk (below_then HX1.out HX1.out.size HX2.out); (have hg1_0 : w2.cell? ⟨g1, 0, none⟩ = some (.int .i64 a0_0) := (blk_cell BK1b.out 0).trans rfl; have hfg1_0 := blk_frozen BK1b.out 0; have hg1_1 : w2.cell? ⟨g1, 1, none⟩ = some (.int .i64 a0_1) := (blk_cell BK1b.out 1).trans rfl; have hfg1_1 := blk_frozen BK1b.out 1))
    | (go_at_call 27; refine (HC _).mono ?_; rintro e w3 ⟨rfl, hb3⟩; have HX3 := Aside0.mk hb3; clear hb3)
    | (((with_reducible refine gate_dst (N := 5) rfl ?_); refine box_event ?hg (N := 5) ?hd (cs := #[.bool false, .nilFunc, .nilFunc, .nilFunc]) (t := 61) ?hr ?_; (case hd => rfl); (case hg => rfl); (case hr => first | (go_simp; done) | (go_simp; rfl)); intro g4 hg w4 hbox hb; have GE4 := Aside0.mk (Nat.le_of_eq hg.symm); have BK4 := Aside0.mk hbox; have HX4 := Aside0.mk hb; clear hg hbox hb); (have hg4_0 : w4.cell? ⟨g4, 0, none⟩ = some (.bool false) := (blk_cell BK4.out 0).trans rfl; have hfg4_0 := blk_frozen BK4.out 0; have hg4_1 : w4.cell? ⟨g4, 1, none⟩ = some (.nilFunc) := (blk_cell BK4.out 1).trans rfl; have hfg4_1 := blk_frozen BK4.out 1; have hg4_2 : w4.cell? ⟨g4, 2, none⟩ = some (.nilFunc) := (blk_cell BK4.out 2).trans rfl; have hfg4_2 := blk_frozen BK4.out 2; have hg4_3 : w4.cell? ⟨g4, 3, none⟩ = some (.nilFunc) := (blk_cell BK4.out 3).trans rfl; have hfg4_3 := blk_frozen BK4.out 3))
    | fail)
  have HB4 := Aside0.mk (below_then (below_then HB2.out HB2.out.size HX3.out) (Nat.le_trans HB2.out.size HX3.out.size) HX4.out)
  have HG4 := Aside0.mk (Nat.le_trans HB2.out.size (Nat.le_trans HX3.out.size GE4.out))
  go_ret
  exact ⟨rfl, below_set (below_set (below_set (below_set HB4.out HG4.out) HG4.out) HG4.out) HG4.out⟩
set_option maxRecDepth 100000 in
set_option maxHeartbeats 400000 in
theorem value_in (a0_0 : Int) (a0_1 : Int) (a1_0 : Int) (a1_1 : Int) (A1_2 : Option Addr) (c1_2 : Nat) (l : Nat) (w : World) (ka kb kc : Value) (m : Nat) (f : Func) (hf : Try.prog.funcs[m]? = some f) (hname : (f.name == "runtime.NumGoroutine") = false) (hbody : f.body.isSome = true) (r : Int) (HC : Knows a0_0 a0_1 #[ka, kb, kc, fn m] true)
    (h1 : ka.oneCell' = true) (h2 : kb.oneCell' = true) (h3 : kc.oneCell' = true)
    (HV : Aside0 (∀ u, Calls Try.prog m #[.agg #[.int .u64 a1_0, .int .i64 a1_1, .slice A1_2 l c1_2]] u fun e w' => e = .returned (.int .i64 r) ∧ Below u.heap.size u w')) :
    Calls Try.prog 15 #[.agg #[.int .i64 a0_0, .int .i64 a0_1], .agg #[.int .u64 a1_0, .int .i64 a1_1, .slice A1_2 l c1_2]] w fun e w' => e = .returned (.int .i64 r) ∧ Below w.heap.size w w' := by
  have he := enters_ hf hname hbody
  clear hf hname hbody
  have sa := store_fact h1
  have sb := store_fact h2
  have sc := store_fact h3
  clear h1 h2 h3
  go_enter Try.func15, Try.ntmps15
  go_wp2_with (first
    | ((with_reducible refine gate_dst (N := 2) rfl ?_); refine box_event ?hg (N := 2) ?hd (cs := #[.int .i64 a0_0, .int .i64 a0_1]) (t := 23) ?hr ?_; (case hd => rfl); (case hg => rfl); (case hr => first | (go_simp; done) | (go_simp; rfl)); intro g1 hg w1 hbox hb; have GE1 := Aside0.mk (Nat.le_of_eq hg.symm); have BK1 := Aside0.mk hbox; have HX1 := Aside0.mk hb; clear hg hbox hb)
    | (((with_reducible refine gate_dst (N := 3) rfl ?_); refine box_event ?hg (N := 3) ?hd (cs := #[.int .u64 a1_0, .int .i64 a1_1, .slice A1_2 l c1_2]) (t := 33) ?hr ?_; (case hd => rfl); (case hg => rfl); (case hr => first | (go_simp; done) | (go_simp; rfl)); intro g2 hg w2 hbox hb; have GE2 := Aside0.mk (Nat.le_of_eq hg.symm); have BK2 := Aside0.mk hbox; have HX2 := Aside0.mk hb; clear hg hbox hb); have BK1b := Aside0.mk (blk_below BK1.out HX2.out); have HB2 := Aside0.mk (below_then HX1.out HX1.out.size HX2.out); (have hg1_0 : w2.cell? ⟨g1, 0, none⟩ = some (.int .i64 a0_0) := (blk_cell BK1b.out 0).trans rfl; have hfg1_0 := blk_frozen BK1b.out 0; have hg1_1 : w2.cell? ⟨g1, 1, none⟩ = some (.int .i64 a0_1) := (blk_cell BK1b.out 1).trans rfl; have hfg1_1 := blk_frozen BK1b.out 1))
    | (go_at_call 27; refine (HC _).mono ?_; rintro e w3 ⟨rfl, hb3⟩; have BK2b := Aside0.mk (blk_below BK2.out hb3); have HX3 := Aside0.mk hb3; clear hb3)
    | (((with_reducible refine gate_dst (N := 5) rfl ?_); refine box_event ?hg (N := 5) ?hd (cs := #[.bool false, .nilFunc, .nilFunc, .nilFunc]) (t := 61) ?hr ?_; (case hd => rfl); (case hg => rfl); (case hr => first | (go_simp; done) | (go_simp; rfl)); intro g4 hg w4 hbox hb; have GE4 := Aside0.mk (Nat.le_of_eq hg.symm); have BK4 := Aside0.mk hbox; have HX4 := Aside0.mk hb; clear hg hbox hb); have BK2c := Aside0.mk (blk_below BK2b.out HX4.out); (have hg4_0 : w4.cell? ⟨g4, 0, none⟩ = some (.bool false) := (blk_cell BK4.out 0).trans rfl; have hfg4_0 := blk_frozen BK4.out 0; have hg4_1 : w4.cell? ⟨g4, 1, none⟩ = some (.nilFunc) := (blk_cell BK4.out 1).trans rfl; have hfg4_1 := blk_frozen BK4.out 1; have hg4_2 : w4.cell? ⟨g4, 2, none⟩ = some (.nilFunc) := (blk_cell BK4.out 2).trans rfl; have hfg4_2 := blk_frozen BK4.out 2; have hg4_3 : w4.cell? ⟨g4, 3, none⟩ = some (.nilFunc) := (blk_cell BK4.out 3).trans rfl; have hfg4_3 := blk_frozen BK4.out 3); (have hg2_0 : w4.cell? ⟨g2, 0, none⟩ = some (.int .u64 a1_0) := (blk_cell BK2c.out 0).trans rfl; have hfg2_0 := blk_frozen BK2c.out 0; have hg2_1 : w4.cell? ⟨g2, 1, none⟩ = some (.int .i64 a1_1) := (blk_cell BK2c.out 1).trans rfl; have hfg2_1 := blk_frozen BK2c.out 1; have hg2_2 : w4.cell? ⟨g2, 2, none⟩ = some (.slice A1_2 l c1_2) := (blk_cell BK2c.out 2).trans rfl; have hfg2_2 := blk_frozen BK2c.out 2); have hne : g2 ≠ g4 := by (have := blk_lt BK2b.out; have := GE4.out; omega))
    | fail)
  have HB4 := Aside0.mk (below_then (below_then HB2.out HB2.out.size HX3.out) (Nat.le_trans HB2.out.size HX3.out.size) HX4.out)
  have HG4 := Aside0.mk (Nat.le_trans HB2.out.size (Nat.le_trans HX3.out.size GE4.out))
  refine (HV.out _).mono ?_
  rintro e w5 ⟨rfl, hb5⟩
  have HB5 := Aside0.mk (below_then (below_set (below_set (below_set (below_set HB4.out HG4.out) HG4.out) HG4.out) HG4.out) (by simp; exact HB4.out.size) hb5)
  clear hb5
  go_wp2_with fail
  go_ret
  exact ⟨rfl, HB5.out⟩
theorem agg_Value.calls (a0_0 : Int) (a0_1 : Int) (a1_0 : Int) (a1_1 : Int) (A1_2 : Option Addr) (c1_2 : Nat) (l1_2 : List ByteArray) (r : Int) (w : World) (hr1_2 : Kd.C Kd.string w A1_2 l1_2.length l1_2) (hc1_2 : l1_2.length ≤ c1_2) (h : agg_Value.f a0_0 a0_1 a1_0 a1_1 l1_2 = some r) :
    Calls Try.prog 15 #[.agg #[.int .i64 a0_0, .int .i64 a0_1], .agg #[.int .u64 a1_0, .int .i64 a1_1, .slice A1_2 l1_2.length c1_2]] w fun e w' => e = .returned (.int .i64 r) ∧ Below w.heap.size w w' := by
  unfold agg_Value.f at h
  injection h with h
  subst h
  by_cases ho : a0_0 < 1 ∨ 5 < a0_0
  · rw [if_neg (by omega), if_neg (by omega), if_neg (by omega)]
    exact value_out _ _ _ _ _ _ _ _ (knows_out ho)
  · have hk : a0_0 = 1 ∨ a0_0 = 2 ∨ a0_0 = 3 ∨ a0_0 = 4 ∨ a0_0 = 5 := by omega
    rcases hk with rfl | rfl | rfl | rfl | rfl
    · exact value_in 1 _ _ _ _ _ _ _ _ _ _ _ _ Try.func48 (by kernel_rfl) (by kernel_rfl) _ (knows_in (by omega) (by omega) rfl) rfl rfl rfl ⟨fun u => val_count _ _ _ _ _ u⟩
    · exact value_in 2 _ _ _ _ _ _ _ _ _ _ _ _ Try.func51 (by kernel_rfl) (by kernel_rfl) _ (knows_in (by omega) (by omega) rfl) rfl rfl rfl ⟨fun u => val_v _ _ _ _ _ u⟩
    · exact value_in 3 _ _ _ _ _ _ _ _ _ _ _ _ Try.func51 (by kernel_rfl) (by kernel_rfl) _ (knows_in (by omega) (by omega) rfl) rfl rfl rfl ⟨fun u => val_v _ _ _ _ _ u⟩
    · exact value_in 4 _ _ _ _ _ _ _ _ _ _ _ _ Try.func51 (by kernel_rfl) (by kernel_rfl) _ (knows_in (by omega) (by omega) rfl) rfl rfl rfl ⟨fun u => val_v _ _ _ _ _ u⟩
    · exact value_in 5 _ _ _ _ _ _ _ _ _ _ _ _ Try.func54 (by kernel_rfl) (by kernel_rfl) _ (knows_in (by omega) (by omega) rfl) rfl rfl rfl ⟨fun u => val_len _ _ _ _ _ u⟩
end Go.Proofs.Ytmjhgeinhhhodaa.P
