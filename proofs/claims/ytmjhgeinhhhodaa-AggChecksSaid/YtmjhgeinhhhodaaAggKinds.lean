/- Kinds of aggregators: what agg.kinds and agg.known answer. -/
import Derived.Test.YtmjhgeinhhhodaaP0
import Derived.Test.YtmjhgeinhhhodaaReg
import Derived.Laws.Tables
import Derived.Deep.WholeRow
import Derived.Laws.EntriesVeiled
import Derived.Outline
namespace Go.Proofs.Ytmjhgeinhhhodaa.P
set_option linter.unusedVariables false
set_option linter.unusedSimpArgs false
open Go.RowKit Go.Proofs.YtmjhgeinhhhodaaW.PrintWords Go.Proofs.YtmjhgeinhhhodaaW.PrintLast Go.Proofs.YtmjhgeinhhhodaaW.PrintMore Go.Proofs.Ytmjhgeinhhhodaa.Lib

abbrev fn (k : Nat) : Value := .func (.func k) #[] #[]
def kindCells : Int → List Value
  | 1 => [.bool false, .nilFunc, .nilFunc, fn 48]
  | 2 => [.bool false, fn 49, fn 50, fn 51]
  | 3 => [.bool false, fn 47, fn 52, fn 51]
  | 4 => [.bool false, fn 47, fn 53, fn 51]
  | 5 => [.bool true, .nilFunc, .nilFunc, fn 54]
  | _ => [.bool false, .nilFunc, .nilFunc, .nilFunc]
def kindsAll : Array Value := (kindCells 0 ++ kindCells 1 ++ kindCells 2 ++ kindCells 3 ++ kindCells 4 ++ kindCells 5).toArray

set_option maxRecDepth 100000 in
set_option maxHeartbeats 400000 in
theorem kinds_calls (w : World) : Calls Try.prog 39 #[] w fun e w' => e = .returned (.agg kindsAll) ∧ Below w.heap.size w w' := by
  go_enter Try.func39, Try.ntmps39
  go_wp2_with (first
    | (refine wpList_store_row rfl 74 (.tmp 0) (.tmp 9) rfl w.heap.size kindsAll rfl rfl 74 _ (heap_alloc_new w _) (by kernel_rfl) rfl (by kernel_rfl) ?_)
    | fail)
  rw [World.setRow_alloc_new]
  exact bodyPost_ret (results_cell_row rfl _ _ w.heap.size 74 kindsAll (0, 0) _ rfl (heap_alloc_new w _) Try.underlying74 rfl (by kernel_rfl)) rfl ⟨rfl, (Below.refl _ _).alloc (Nat.le_refl _) _⟩

theorem kindCells_out {k : Int} (h : k < 1 ∨ 5 < k) : kindCells k = [.bool false, .nilFunc, .nilFunc, .nilFunc] := by
  unfold kindCells
  split <;> first | rfl | omega
theorem index_1 (w : World) : (Instr.index 74 (.agg kindsAll) (.int .i64 1)).run Try.prog w = .ok (.agg (kindCells 1).toArray) w := by kernel_rfl
theorem index_2 (w : World) : (Instr.index 74 (.agg kindsAll) (.int .i64 2)).run Try.prog w = .ok (.agg (kindCells 2).toArray) w := by kernel_rfl
theorem index_3 (w : World) : (Instr.index 74 (.agg kindsAll) (.int .i64 3)).run Try.prog w = .ok (.agg (kindCells 3).toArray) w := by kernel_rfl
theorem index_4 (w : World) : (Instr.index 74 (.agg kindsAll) (.int .i64 4)).run Try.prog w = .ok (.agg (kindCells 4).toArray) w := by kernel_rfl
theorem index_5 (w : World) : (Instr.index 74 (.agg kindsAll) (.int .i64 5)).run Try.prog w = .ok (.agg (kindCells 5).toArray) w := by kernel_rfl
theorem index74 (k : Int) (h0 : 1 ≤ k) (h5 : k ≤ 5) (w : World) : (Instr.index 74 (.agg kindsAll) (.int .i64 k)).run Try.prog w = .ok (.agg (kindCells k).toArray) w := by
  have hk : k = 1 ∨ k = 2 ∨ k = 3 ∨ k = 4 ∨ k = 5 := by omega
  rcases hk with rfl | rfl | rfl | rfl | rfl
  · exact index_1 w
  · exact index_2 w
  · exact index_3 w
  · exact index_4 w
  · exact index_5 w
set_option maxRecDepth 100000 in
set_option maxHeartbeats 400000 in
theorem known_out (k j : Int) (w : World) (h : k < 1 ∨ 5 < k) : Calls Try.prog 27 #[.agg #[.int .i64 k, .int .i64 j]] w fun e w' => e = .returned (.tuple #[.agg (kindCells k).toArray, .bool false]) ∧ Below w.heap.size w w' := by
  have HK := Aside0.mk (kindCells_out h)
  by_cases h1 : k < 1
  all_goals
    first
      | (have h1b : decide (k < 1) = true := decide_eq_true h1)
      | (have h1b : decide (k < 1) = false := decide_eq_false h1
         have h5b : decide (5 < k) = true := decide_eq_true (by omega))
    clear h
    go_enter Try.func27, Try.ntmps27
    go_wp2_with (first
      | ((with_reducible refine gate_dst (N := 1) rfl ?_); refine box_event ?hg (N := 1) ?hd (cs := #[.int .i64 k, .int .i64 j]) (t := 23) ?hr ?_; (case hd => rfl); (case hg => rfl); (case hr => first | (go_simp; done) | (go_simp; rfl)); intro g1 hg w1 hbox hb; have GE1 := Aside0.mk (Nat.le_of_eq hg.symm); have BK1 := Aside0.mk hbox; have HX1 := Aside0.mk hb; clear hg hbox hb)
      | (((with_reducible refine gate_dst (N := 2) rfl ?_); refine box_event ?hg (N := 2) ?hd (cs := #[.bool false, .nilFunc, .nilFunc, .nilFunc]) (t := 61) ?hr ?_; (case hd => rfl); (case hg => rfl); (case hr => first | (go_simp; done) | (go_simp; rfl)); intro g2 hg w2 hbox hb; have GE2 := Aside0.mk (Nat.le_of_eq hg.symm); have BK2 := Aside0.mk hbox; have HX2 := Aside0.mk hb; clear hg hbox hb); have BK1b := Aside0.mk (blk_below BK1.out HX2.out); have HB2 := Aside0.mk (below_then HX1.out HX1.out.size HX2.out); (have hg1_0 : w2.cell? ⟨g1, 0, none⟩ = some (.int .i64 k) := (blk_cell BK1b.out 0).trans rfl; have hfg1_0 := blk_frozen BK1b.out 0; have hg1_1 : w2.cell? ⟨g1, 1, none⟩ = some (.int .i64 j) := (blk_cell BK1b.out 1).trans rfl; have hfg1_1 := blk_frozen BK1b.out 1); (have hg2_0 : w2.cell? ⟨g2, 0, none⟩ = some (.bool false) := (blk_cell BK2.out 0).trans rfl; have hfg2_0 := blk_frozen BK2.out 0; have hg2_1 : w2.cell? ⟨g2, 1, none⟩ = some (.nilFunc) := (blk_cell BK2.out 1).trans rfl; have hfg2_1 := blk_frozen BK2.out 1; have hg2_2 : w2.cell? ⟨g2, 2, none⟩ = some (.nilFunc) := (blk_cell BK2.out 2).trans rfl; have hfg2_2 := blk_frozen BK2.out 2; have hg2_3 : w2.cell? ⟨g2, 3, none⟩ = some (.nilFunc) := (blk_cell BK2.out 3).trans rfl; have hfg2_3 := blk_frozen BK2.out 3))
      | fail)
    have HG2 := Aside0.mk (Nat.le_trans HX1.out.size GE2.out)
    refine bodyPost_ret (results_ct rfl _ _ g2 61 #[.bool false, .nilFunc, .nilFunc, .nilFunc] (0, 0) _ rfl (blk_set (blk_set (blk_set (blk_set BK2.out 0 _) 1 _) 2 _) 3 _) Try.underlying61 rfl (by kernel_rfl)) rfl ⟨?_, below_set (below_set (below_set (below_set HB2.out HG2.out) HG2.out) HG2.out) HG2.out⟩
    rw [HK.out]
    rfl
theorem kindCells_shape (k : Int) : ∃ a b c d, kindCells k = [a, b, c, d] ∧ a.oneCell' = true ∧ b.oneCell' = true ∧ c.oneCell' = true ∧ d.oneCell' = true := by
  unfold kindCells
  split <;> exact ⟨_, _, _, _, rfl, rfl, rfl, rfl, rfl⟩
set_option maxRecDepth 100000 in
set_option maxHeartbeats 400000 in
theorem known_in (k j : Int) (w : World) (h0 : 1 ≤ k) (h5 : k ≤ 5) : Calls Try.prog 27 #[.agg #[.int .i64 k, .int .i64 j]] w fun e w' => e = .returned (.tuple #[.agg (kindCells k).toArray, .bool true]) ∧ Below w.heap.size w w' := by
  have h1b : decide (k < 1) = false := decide_eq_false (by omega)
  have h5b : decide (5 < k) = false := decide_eq_false (by omega)
  obtain ⟨ka, kb, kc, kd, hk, h1a, h1b', h1c, h1d⟩ := kindCells_shape k
  have HI := index74 k h0 h5
  rw [hk] at HI
  have HK := Aside0.mk hk
  have sa := fun (u : World) (p : Addr) (m : Mode) => run_store Try.prog u p ka m h1a
  have sb := fun (u : World) (p : Addr) (m : Mode) => run_store Try.prog u p kb m h1b'
  have sc := fun (u : World) (p : Addr) (m : Mode) => run_store Try.prog u p kc m h1c
  have sd := fun (u : World) (p : Addr) (m : Mode) => run_store Try.prog u p kd m h1d
  clear hk h1a h1b' h1c h1d
  go_enter Try.func27, Try.ntmps27
  go_wp2_with (first
    | ((with_reducible refine gate_dst (N := 1) rfl ?_); refine box_event ?hg (N := 1) ?hd (cs := #[.int .i64 k, .int .i64 j]) (t := 23) ?hr ?_; (case hd => rfl); (case hg => rfl); (case hr => first | (go_simp; done) | (go_simp; rfl)); intro g1 hg w1 hbox hb; have GE1 := Aside0.mk (Nat.le_of_eq hg.symm); have BK1 := Aside0.mk hbox; have HX1 := Aside0.mk hb; clear hg hbox hb)
    | (((with_reducible refine gate_dst (N := 2) rfl ?_); refine box_event ?hg (N := 2) ?hd (cs := #[.bool false, .nilFunc, .nilFunc, .nilFunc]) (t := 61) ?hr ?_; (case hd => rfl); (case hg => rfl); (case hr => first | (go_simp; done) | (go_simp; rfl)); intro g2 hg w2 hbox hb; have GE2 := Aside0.mk (Nat.le_of_eq hg.symm); have BK2 := Aside0.mk hbox; have HX2 := Aside0.mk hb; clear hg hbox hb); have BK1b := Aside0.mk (blk_below BK1.out HX2.out); have HB2 := Aside0.mk (below_then HX1.out HX1.out.size HX2.out); (have hg1_0 : w2.cell? ⟨g1, 0, none⟩ = some (.int .i64 k) := (blk_cell BK1b.out 0).trans rfl; have hfg1_0 := blk_frozen BK1b.out 0; have hg1_1 : w2.cell? ⟨g1, 1, none⟩ = some (.int .i64 j) := (blk_cell BK1b.out 1).trans rfl; have hfg1_1 := blk_frozen BK1b.out 1); (have hg2_0 : w2.cell? ⟨g2, 0, none⟩ = some (.bool false) := (blk_cell BK2.out 0).trans rfl; have hfg2_0 := blk_frozen BK2.out 0; have hg2_1 : w2.cell? ⟨g2, 1, none⟩ = some (.nilFunc) := (blk_cell BK2.out 1).trans rfl; have hfg2_1 := blk_frozen BK2.out 1; have hg2_2 : w2.cell? ⟨g2, 2, none⟩ = some (.nilFunc) := (blk_cell BK2.out 2).trans rfl; have hfg2_2 := blk_frozen BK2.out 2; have hg2_3 : w2.cell? ⟨g2, 3, none⟩ = some (.nilFunc) := (blk_cell BK2.out 3).trans rfl; have hfg2_3 := blk_frozen BK2.out 3))
    | fail)
  refine start_ (n := 6) (S := fun w' => w'.cell? ⟨g1, 0, none⟩ = some (.int .i64 k)) (ds := [4]) #[false, false, false, false, false, false] (by kernel_rfl) rfl rfl (hg1_0) (fun hHeld => ?_)
  refine pure_ (i := 1) (N := some 14) (v := ?_) (a' := ?_) #[false, true, false, false, false, false] rfl rfl (by kernel_rfl) (fun _ _ _ h => h) (Or.inl ⟨by rfl, ?_⟩) ?_ ?_
  rotate_left
  · intro w'
    go_simp
    with_reducible rfl
  rotate_left
  · simp only [Act.put, List.setIfInBounds_toArray, List.set_cons_zero, List.set_cons_succ, i64_w, i32_w]
    rfl
  refine take_ (i := 2) (N := some 15) (v := ?_) (a' := ?_) #[false, true, true, false, false, false] rfl rfl (by kernel_rfl) (fun _ _ _ h => h) (Or.inl ⟨by rfl, ?_⟩) hHeld ?_ ?_
  rotate_left
  · intro w' s0
    go_simp
    with_reducible rfl
  rotate_left
  · simp only [Act.put, List.setIfInBounds_toArray, List.set_cons_zero, List.set_cons_succ, i64_w, i32_w]
    rfl
  refine one_ (i := 0) (N := some 13) #[true, true, true, false, false, false] rfl rfl (by kernel_rfl) (by decide) (fun K hK => ?_)
  refine goes_ Try.func39 (by kernel_rfl) rfl #[] (by rfl) rfl rfl (by simp) ?_
  with_reducible refine (kinds_calls _).mono ?_
  rintro e w3 ⟨rfl, hb⟩
  refine ⟨_, rfl, ?_⟩
  have HX3 := Aside0.mk (show Below w2.heap.size w2 w3 from below_then (below_drew (Below.refl w2.heap.size w2)) (Nat.le_refl _) hb)
  have BK1c := Aside0.mk (blk_below BK1b.out HX3.out)
  have BK2c := Aside0.mk (blk_below BK2.out HX3.out)
  (have hg2_0 : w3.cell? ⟨g2, 0, none⟩ = some (.bool false) := (blk_cell BK2c.out 0).trans rfl; have hfg2_0 := blk_frozen BK2c.out 0; have hg2_1 : w3.cell? ⟨g2, 1, none⟩ = some (.nilFunc) := (blk_cell BK2c.out 1).trans rfl; have hfg2_1 := blk_frozen BK2c.out 1; have hg2_2 : w3.cell? ⟨g2, 2, none⟩ = some (.nilFunc) := (blk_cell BK2c.out 2).trans rfl; have hfg2_2 := blk_frozen BK2c.out 2; have hg2_3 : w3.cell? ⟨g2, 3, none⟩ = some (.nilFunc) := (blk_cell BK2c.out 3).trans rfl; have hfg2_3 := blk_frozen BK2c.out 3)
  have h30 : w3.cell? ⟨g1, 0, none⟩ = some (.int .i64 k) := (blk_cell BK1c.out 0).trans rfl
  refine hK.out _ _ (h30) (fun hHeld => ?_)
  clear hK K
  refine norm_ (a' := ?_) ?_ ?_
  rotate_left
  · show Act.put _ (some 13) _ = _
    simp only [Act.put, List.setIfInBounds_toArray, List.set_cons_zero, List.set_cons_succ, i64_w, i32_w]
    rfl
  refine take_ (i := 3) (N := some 16) (v := ?_) (a' := ?_) #[true, true, true, true, false, false] rfl rfl (by kernel_rfl) (fun _ _ _ h => h) (Or.inl ⟨by rfl, ?_⟩) hHeld ?_ ?_
  rotate_left
  · intro w' s0
    go_simp
    with_reducible rfl
  rotate_left
  · simp only [Act.put, List.setIfInBounds_toArray, List.set_cons_zero, List.set_cons_succ, i64_w, i32_w]
    rfl
  refine last_ (i := 4) (N := none) #[true, true, true, true, true, false] rfl rfl (by kernel_rfl) (by decide) (fun K hK => ?_)
  refine skip_ (w1 := ?_) (by rfl) rfl ?_ ?_
  rotate_left
  · go_simp
    rfl
  refine hK.out _ _ ?_
  clear hK K
  refine pure_ (i := 5) (N := some 3) (v := ?_) (a' := ?_) #[true, true, true, true, true, true] rfl rfl (by kernel_rfl) (fun _ _ _ h => h) (Or.inl ⟨by rfl, ?_⟩) ?_ ?_
  rotate_left
  · intro w'
    go_simp
    with_reducible rfl
  rotate_left
  · simp only [Act.put, List.setIfInBounds_toArray, List.set_cons_zero, List.set_cons_succ, i64_w, i32_w]
    rfl
  refine done_ (by kernel_rfl) ?_
  go_wp2_with fail
  have HG2 := Aside0.mk (Nat.le_trans HX1.out.size GE2.out)
  have HB3 := Aside0.mk (below_then HB2.out HB2.out.size HX3.out)
  refine bodyPost_ret (results_ct rfl _ _ g2 61 #[ka, kb, kc, kd] (0, 0) _ rfl (blk_set (blk_set (blk_set (blk_set BK2c.out 0 _) 1 _) 2 _) 3 _) Try.underlying61 rfl (by kernel_rfl)) rfl ⟨?_, below_set (below_set (below_set (below_set HB3.out HG2.out) HG2.out) HG2.out) HG2.out⟩
  rw [HK.out]
  rfl
end Go.Proofs.Ytmjhgeinhhhodaa.P
