/- A fact more: what agg.Add answers, as a function. -/
import Derived.Test.YtmjhgeinhhhodaaExtAdd
namespace Go.Proofs.Ytmjhgeinhhhodaa.P
set_option linter.unusedVariables false
set_option linter.unusedSimpArgs false
open Go.RowKit Go.Proofs.YtmjhgeinhhhodaaW.PrintWords Go.Proofs.YtmjhgeinhhhodaaW.PrintLast Go.Proofs.YtmjhgeinhhhodaaW.PrintMore Go.Proofs.Ytmjhgeinhhhodaa.Lib

set_option maxRecDepth 100000 in
set_option maxHeartbeats 400000 in
theorem many_once (x n : Int) (w : World) : Calls Try.prog 47 #[.int .i64 x, .int .u64 n] w fun e w' => e = .returned (.int .i64 x) ∧ Below w.heap.size w w' := by
  go_enter Try.func47, Try.ntmps47
  go_wp2
  go_ret
  exact ⟨rfl, Below.refl _ _⟩
set_option maxRecDepth 100000 in
set_option maxHeartbeats 400000 in
theorem many_sum (x n : Int) (w : World) : Calls Try.prog 49 #[.int .i64 x, .int .u64 n] w fun e w' => e = .returned (.int .i64 (wrap64 (IntKind.u64.wrap (IntKind.u64.wrap x * n)))) ∧ Below w.heap.size w w' := by
  go_enter Try.func49, Try.ntmps49
  go_wp2
  go_ret
  exact ⟨rfl, Below.refl _ _⟩

/-- what a fact's number, so often, comes to -/
def manyV (k x n : Int) : Int := if k = 2 then wrap64 (IntKind.u64.wrap (IntKind.u64.wrap x * n)) else x
def agg_Add.f (a0_0 a0_1 a1_0 a1_1 : Int) (l1_2 : List ByteArray) (a2_0 : Int) (l2_1 : List ByteArray) (l2_2 : List Int) (a3 : Int) : Option (Int × Int × List ByteArray) :=
  if a0_0 < 1 ∨ 5 < a0_0 then agg_Merge.f a0_0 a0_1 a1_0 a1_1 l1_2 0 0 []
  else if a3 = 0 then agg_Merge.f a0_0 a0_1 a1_0 a1_1 l1_2 0 0 []
  else if a0_0 = 1 then agg_Merge.f a0_0 a0_1 a1_0 a1_1 l1_2 a3 0 []
  else if a0_0 = 5 then (if 0 ≤ a0_1 ∧ a0_1 < (l2_1.length : Int) then agg_Merge.f a0_0 a0_1 a1_0 a1_1 l1_2 a3 0 [l2_1.getD a0_1.toNat ⟨#[]⟩] else none)
  else if 0 ≤ a0_1 ∧ a0_1 < (l2_2.length : Int) then agg_Merge.f a0_0 a0_1 a1_0 a1_1 l1_2 a3 (manyV a0_0 (rd l2_2 a0_1) a3) [] else none
theorem agg_Add.calls (a0_0 a0_1 a1_0 a1_1 : Int) (A1_2 : Option Addr) (c1_2 : Nat) (l1_2 : List ByteArray) (a2_0 : Int) (A2_1 : Option Addr) (c2_1 : Nat) (l2_1 : List ByteArray) (A2_2 : Option Addr) (c2_2 : Nat) (l2_2 : List Int) (a3 : Int) (r1 r2 : Int) (r3 : List ByteArray) (w : World)
    (hr1_2 : Kd.C Kd.string w A1_2 l1_2.length l1_2) (hc1_2 : l1_2.length ≤ c1_2) (hr2_1 : Kd.C Kd.string w A2_1 l2_1.length l2_1) (hc2_1 : l2_1.length ≤ c2_1) (hr2_2 : Kd.C (Kd.int .i64) w A2_2 l2_2.length l2_2) (hc2_2 : l2_2.length ≤ c2_2)
    (h : agg_Add.f a0_0 a0_1 a1_0 a1_1 l1_2 a2_0 l2_1 l2_2 a3 = some (r1, r2, r3)) :
    Calls Try.prog 19 #[.agg #[.int .i64 a0_0, .int .i64 a0_1], .agg #[.int .u64 a1_0, .int .i64 a1_1, .slice A1_2 l1_2.length c1_2], .agg #[.int .i64 a2_0, .slice A2_1 l2_1.length c2_1, .slice A2_2 l2_2.length c2_2], .int .u64 a3] w
      fun e w' => ∃ v2_ : Value, e = .returned (.agg #[.int .u64 r1, .int .i64 r2, v2_]) ∧ Kd.R Kd.string 9 w' w.heap.size (fun _ => True) v2_ r3 ∧ Below w.heap.size w w' := by
  unfold agg_Add.f at h
  by_cases ho : a0_0 < 1 ∨ 5 < a0_0
  · rw [if_pos ho] at h
    exact add_out _ _ _ _ _ _ _ _ _ _ _ _ _ _ _ _ _ _ _ _ (knows_out ho) rfl rfl rfl rfl hr1_2 hc1_2 _ _ _ h
  · rw [if_neg ho] at h
    have hk : a0_0 = 1 ∨ a0_0 = 2 ∨ a0_0 = 3 ∨ a0_0 = 4 ∨ a0_0 = 5 := by omega
    by_cases hn : a3 = 0
    · rw [if_pos hn] at h
      rcases hk with rfl | rfl | rfl | rfl | rfl <;> exact add_none _ _ _ _ _ _ _ _ _ _ _ _ _ _ _ _ _ _ _ _ (knows_in (by omega) (by omega) rfl) rfl rfl rfl rfl hr1_2 hc1_2 _ _ _ (beq_iff_eq.2 hn) h
    · rw [if_neg hn] at h
      rcases hk with rfl | rfl | rfl | rfl | rfl
      · rw [if_pos rfl] at h
        exact add_count _ _ _ _ _ _ _ _ _ _ _ _ _ _ _ _ _ _ _ _ (knows_in (by omega) (by omega) rfl) rfl rfl rfl rfl hr1_2 hc1_2 _ _ _ (beq_eq_false_iff_ne.2 hn) rfl rfl h
      · rw [if_neg (by omega), if_neg (by omega)] at h
        split at h
        · rename_i hj
          exact add_num _ _ _ _ _ _ _ _ _ _ _ _ _ _ _ _ _ _ _ _ (knows_in (by omega) (by omega) rfl) rfl rfl rfl rfl hr1_2 hc1_2 _ _ _ (beq_eq_false_iff_ne.2 hn) rfl _ rfl hj.1 hj.2 hr2_2 _ Try.func49 (by kernel_rfl) (by kernel_rfl) _ ⟨fun u => many_sum _ _ u⟩ h
        · cases h
      · rw [if_neg (by omega), if_neg (by omega)] at h
        split at h
        · rename_i hj
          exact add_num _ _ _ _ _ _ _ _ _ _ _ _ _ _ _ _ _ _ _ _ (knows_in (by omega) (by omega) rfl) rfl rfl rfl rfl hr1_2 hc1_2 _ _ _ (beq_eq_false_iff_ne.2 hn) rfl _ rfl hj.1 hj.2 hr2_2 _ Try.func47 (by kernel_rfl) (by kernel_rfl) _ ⟨fun u => many_once _ _ u⟩ h
        · cases h
      · rw [if_neg (by omega), if_neg (by omega)] at h
        split at h
        · rename_i hj
          exact add_num _ _ _ _ _ _ _ _ _ _ _ _ _ _ _ _ _ _ _ _ (knows_in (by omega) (by omega) rfl) rfl rfl rfl rfl hr1_2 hc1_2 _ _ _ (beq_eq_false_iff_ne.2 hn) rfl _ rfl hj.1 hj.2 hr2_2 _ Try.func47 (by kernel_rfl) (by kernel_rfl) _ ⟨fun u => many_once _ _ u⟩ h
        · cases h
      · rw [if_neg (by omega), if_pos rfl] at h
        split at h
        · rename_i hj
          exact add_dim _ _ _ _ _ _ _ _ _ _ _ _ _ _ _ _ _ _ _ _ (knows_in (by omega) (by omega) rfl) rfl rfl rfl rfl hr1_2 hc1_2 _ _ _ (beq_eq_false_iff_ne.2 hn) rfl rfl hj.1 hj.2 hr2_1 h
        · cases h
end Go.Proofs.Ytmjhgeinhhhodaa.P
