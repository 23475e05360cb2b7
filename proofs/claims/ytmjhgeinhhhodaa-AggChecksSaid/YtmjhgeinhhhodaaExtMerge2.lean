/- Merging: what agg.Merge answers, as a function. -/
import Derived.Test.YtmjhgeinhhhodaaExtMerge
namespace Go.Proofs.Ytmjhgeinhhhodaa.P
set_option linter.unusedVariables false
set_option linter.unusedSimpArgs false
open Go.RowKit Go.Proofs.YtmjhgeinhhhodaaW.PrintWords Go.Proofs.YtmjhgeinhhhodaaW.PrintLast Go.Proofs.YtmjhgeinhhhodaaW.PrintMore Go.Proofs.Ytmjhgeinhhhodaa.Lib

set_option maxRecDepth 100000 in
set_option maxHeartbeats 400000 in
theorem mer_sum (v w_ : Int) (w : World) : Calls Try.prog 50 #[.int .i64 v, .int .i64 w_] w fun e w' => e = .returned (.int .i64 (wrap64 (v + w_))) ∧ Below w.heap.size w w' := by
  go_enter Try.func50, Try.ntmps50
  go_wp2
  go_ret
  exact ⟨rfl, Below.refl _ _⟩
set_option maxRecDepth 100000 in
set_option maxHeartbeats 400000 in
theorem mer_min (v w_ : Int) (w : World) : Calls Try.prog 52 #[.int .i64 v, .int .i64 w_] w fun e w' => e = .returned (.int .i64 (min v w_)) ∧ Below w.heap.size w w' := by
  go_enter Try.func52, Try.ntmps52
  go_wp2
  go_ret
  exact ⟨rfl, Below.refl _ _⟩
set_option maxRecDepth 100000 in
set_option maxHeartbeats 400000 in
theorem mer_max (v w_ : Int) (w : World) : Calls Try.prog 53 #[.int .i64 v, .int .i64 w_] w fun e w' => e = .returned (.int .i64 (max v w_)) ∧ Below w.heap.size w w' := by
  go_enter Try.func53, Try.ntmps53
  go_wp2
  go_ret
  exact ⟨rfl, Below.refl _ _⟩
/-- what two values of a kind come to -/
def mergeV (k v w : Int) : Int := if k = 2 then wrap64 (v + w) else if k = 3 then min v w else if k = 4 then max v w else v
def mfin (n v : Int) (l : List ByteArray) : Option (Int × Int × List ByteArray) := if l.length < 8796093022208 then some (n, v, builtB l) else none
def agg_Merge.f (a0_0 a0_1 a1_0 a1_1 : Int) (l1_2 : List ByteArray) (a2_0 a2_1 : Int) (l2_2 : List ByteArray) : Option (Int × Int × List ByteArray) :=
  if a0_0 < 1 ∨ 5 < a0_0 then some (0, 0, [])
  else if a1_0 = 0 then (if a2_0 = 0 then some (0, 0, []) else mfin a2_0 a2_1 l2_2)
  else if a2_0 = 0 then mfin a1_0 a1_1 l1_2
  else mfin (IntKind.u64.wrap (a1_0 + a2_0)) (mergeV a0_0 a1_1 a2_1) (l1_2 ++ l2_2)
theorem agg_Merge.calls (a0_0 a0_1 a1_0 a1_1 : Int) (A1_2 : Option Addr) (c1_2 : Nat) (l1_2 : List ByteArray) (a2_0 a2_1 : Int) (A2_2 : Option Addr) (c2_2 : Nat) (l2_2 : List ByteArray) (r1 r2 : Int) (r3 : List ByteArray) (w : World)
    (hr1_2 : Kd.C Kd.string w A1_2 l1_2.length l1_2) (hc1_2 : l1_2.length ≤ c1_2) (hr2_2 : Kd.C Kd.string w A2_2 l2_2.length l2_2) (hc2_2 : l2_2.length ≤ c2_2) (h : agg_Merge.f a0_0 a0_1 a1_0 a1_1 l1_2 a2_0 a2_1 l2_2 = some (r1, r2, r3)) :
    Calls Try.prog 17 #[.agg #[.int .i64 a0_0, .int .i64 a0_1], .agg #[.int .u64 a1_0, .int .i64 a1_1, .slice A1_2 l1_2.length c1_2], .agg #[.int .u64 a2_0, .int .i64 a2_1, .slice A2_2 l2_2.length c2_2]] w
      fun e w' => ∃ v2_ : Value, e = .returned (.agg #[.int .u64 r1, .int .i64 r2, v2_]) ∧ Kd.R Kd.string 9 w' w.heap.size (fun _ => True) v2_ r3 ∧ Below w.heap.size w w' := by
  unfold agg_Merge.f at h
  by_cases ho : a0_0 < 1 ∨ 5 < a0_0
  · rw [if_pos ho] at h
    injection h with h
    injection h with h1 h
    injection h with h2 h3
    subst h1 h2 h3
    exact merge_out _ _ _ _ _ _ _ _ _ _ _ _ _ (knows_out ho)
  · rw [if_neg ho] at h
    have hk : a0_0 = 1 ∨ a0_0 = 2 ∨ a0_0 = 3 ∨ a0_0 = 4 ∨ a0_0 = 5 := by omega
    by_cases hn : a1_0 = 0
    · rw [if_pos hn] at h
      by_cases hn2 : a2_0 = 0
      · rw [if_pos hn2] at h
        injection h with h
        injection h with h1 h
        injection h with h2 h3
        subst h1 h2 h3
        rcases hk with rfl | rfl | rfl | rfl | rfl <;> exact merge_zero _ _ _ _ _ _ _ _ _ _ _ _ _ _ _ _ _ (beq_iff_eq.2 hn) (beq_iff_eq.2 hn2) (knows_in (by omega) (by omega) rfl) rfl rfl rfl rfl
      · rw [if_neg hn2] at h
        unfold mfin at h
        split at h
        · injection h with h
          injection h with h1 h
          injection h with h2 h3
          subst h1 h2 h3
          rcases hk with rfl | rfl | rfl | rfl | rfl <;> exact merge_right _ _ _ _ _ _ _ _ _ _ _ _ _ _ _ _ _ (beq_iff_eq.2 hn) (beq_eq_false_iff_ne.2 hn2) _ hr2_2 (by omega) (knows_in (by omega) (by omega) rfl) rfl rfl rfl rfl
        · cases h
    · rw [if_neg hn] at h
      by_cases hn2 : a2_0 = 0
      · rw [if_pos hn2] at h
        unfold mfin at h
        split at h
        · injection h with h
          injection h with h1 h
          injection h with h2 h3
          subst h1 h2 h3
          rcases hk with rfl | rfl | rfl | rfl | rfl <;> exact merge_left _ _ _ _ _ _ _ _ _ _ _ _ _ _ _ _ _ (beq_eq_false_iff_ne.2 hn) (beq_iff_eq.2 hn2) _ hr1_2 (by omega) (knows_in (by omega) (by omega) rfl) rfl rfl rfl rfl
        · cases h
      · rw [if_neg hn2] at h
        unfold mfin at h
        split at h
        · rename_i hl
          rw [List.length_append] at hl
          injection h with h
          injection h with h1 h
          injection h with h2 h3
          subst h1 h2 h3
          rcases hk with rfl | rfl | rfl | rfl | rfl
          · exact merge_nil _ _ _ _ _ _ _ _ _ _ _ _ _ _ _ _ _ (beq_eq_false_iff_ne.2 hn) (beq_eq_false_iff_ne.2 hn2) _ _ hr1_2 hr2_2 hl hc1_2 hc2_2 rfl (knows_in (by omega) (by omega) rfl) rfl rfl rfl rfl
          · exact merge_fn _ _ _ _ _ _ _ _ _ _ _ _ _ _ _ _ _ (beq_eq_false_iff_ne.2 hn) (beq_eq_false_iff_ne.2 hn2) _ _ hr1_2 hr2_2 hl hc1_2 hc2_2 _ rfl _ Try.func50 (by kernel_rfl) (by kernel_rfl) _ ⟨fun u => mer_sum _ _ u⟩ (knows_in (by omega) (by omega) rfl) rfl rfl rfl rfl
          · exact merge_fn _ _ _ _ _ _ _ _ _ _ _ _ _ _ _ _ _ (beq_eq_false_iff_ne.2 hn) (beq_eq_false_iff_ne.2 hn2) _ _ hr1_2 hr2_2 hl hc1_2 hc2_2 _ rfl _ Try.func52 (by kernel_rfl) (by kernel_rfl) _ ⟨fun u => mer_min _ _ u⟩ (knows_in (by omega) (by omega) rfl) rfl rfl rfl rfl
          · exact merge_fn _ _ _ _ _ _ _ _ _ _ _ _ _ _ _ _ _ (beq_eq_false_iff_ne.2 hn) (beq_eq_false_iff_ne.2 hn2) _ _ hr1_2 hr2_2 hl hc1_2 hc2_2 _ rfl _ Try.func53 (by kernel_rfl) (by kernel_rfl) _ ⟨fun u => mer_max _ _ u⟩ (knows_in (by omega) (by omega) rfl) rfl rfl rfl rfl
          · exact merge_nil _ _ _ _ _ _ _ _ _ _ _ _ _ _ _ _ _ (beq_eq_false_iff_ne.2 hn) (beq_eq_false_iff_ne.2 hn2) _ _ hr1_2 hr2_2 hl hc1_2 hc2_2 rfl (knows_in (by omega) (by omega) rfl) rfl rfl rfl rfl
        · cases h
end Go.Proofs.Ytmjhgeinhhhodaa.P
