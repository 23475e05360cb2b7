/- Chapter 02: awake. -/
import Derived.Test.YtcgfheagbaafoaaDoorCount
namespace Go.Proofs.YtcgfheagbaafoaaDoor.Sets
set_option linter.unusedVariables false
set_option linter.unusedSimpArgs false
open Go.RowKit Go.Proofs.YtcgfheagbaafoaaDoorW.PrintWords Go.Proofs.YtcgfheagbaafoaaDoorW.PrintLast Go.Proofs.YtcgfheagbaafoaaDoorW.PrintMore Go.Proofs.YtcgfheagbaafoaaDoor.Lib Go.Proofs.YtcgfheagbaafoaaDoor.Pack Go.Proofs.YtcgfheagbaafoaaDoor.PackA

theorem packed123 : packed [1, 2, 3] 2 = [57] := by decide +kernel
theorem fits123 : Fits [1, 2, 3] 2 3 := by
  intro q hq
  have : q = 0 ∨ q = 1 ∨ q = 2 := by omega
  rcases this with rfl | rfl | rfl <;> decide
theorem ws10 : putrow (putrow (List.replicate (long64 10) 0) 0) 9 = [513] := by decide +kernel
theorem count513 : count [513] = 2 := by decide +kernel
theorem byts513 : byts [513] (long 10) = [1, 2] := by decide +kernel
theorem width257 : widthOf 257 = 9 := by decide +kernel

set_option maxRecDepth 100000 in
set_option maxHeartbeats 1600000 in
theorem awake_calls (w : World) :
    Calls Tryd.prog 7 #[] w fun e w' => e = .returned (.bool true) ∧ Below w.heap.size w w' := by
  go_enter Tryd.func7, Tryd.ntmps7
  go_wp2_with (first
    | ((with_reducible refine gate_dst (N := 8) rfl ?_); refine Kd.R_lit (Kd.int .i64) (w0 := w) w.heap.size 3 ?hg (N := 8) ?hd (xs := ([1, 2, 3] : List Int)) (inner := [.int .i64 (1), .int .i64 (2), .int .i64 (3)]) (ok := fun _ => True) (okp := fun _ => True) ?hr ?hp (fun _ hk => hk) trivial (Below.refl _ _) (Nat.le_refl _) (by simp) ?_; (case hd => rfl); (case hg => rfl); (case hr => first | (go_simp; done) | (go_simp; rfl)); (case hp => exact (Reps.one (show Kd.M (Kd.int .i64) _ _ _ (1) [.int .i64 (1)] from rfl) (Reps.one (show Kd.M (Kd.int .i64) _ _ _ (2) [.int .i64 (2)] from rfl) (Reps.one (show Kd.M (Kd.int .i64) _ _ _ (3) [.int .i64 (3)] from rfl) (Reps.none _ _))))); intro v1 w1 ho1 hb1 hg1 ha1; obtain ⟨A1, c1, rfl, hc1, hC1⟩ := Kd.R_reads ho1; have HC1 := Aside0.mk (show Kd.C (Kd.int .i64) w1 A1 3 _ from hC1); have HB1 := Aside0.mk hb1; clear ho1 hb1 hg1 ha1 hC1)
    | fail)
  refine (pack_calls [1, 2, 3] A1 3 c1 2 w1 HC1.out (by decide) (by decide) (by decide)).mono ?_
  rintro e w2 ⟨v2, code, xs, rfl, ho, hb, hcase⟩
  obtain ⟨rfl, rfl⟩ : code = 0 ∧ xs = [57] := by
    rcases hcase with ⟨_, h1, h2⟩ | ⟨h, _, _⟩
    · exact ⟨h1, h2.trans packed123⟩
    · exact absurd fits123 h
  obtain ⟨A2, c2, rfl, hc2, hC2⟩ := Kd.R_reads ho
  have HB2 := Aside0.mk (below_then HB1.out HB1.out.size hb)
  have HC2 := Aside0.mk (show Kd.C (Kd.int .u8) w2 A2 1 [57] from hC2)
  clear ho hb hcase hC2 HB1 HC1
  go_wp2_with fail
  refine (new_calls 10 w2 (by decide)).mono ?_
  rintro e w3 ⟨g, rfl, hs, hb⟩
  have HB3 := Aside0.mk hb
  have HS3 := Aside0.mk hs
  clear hs hb
  go_wp2_with fail
  refine (put_calls w3 w2.heap.size g 10 _ 0 HS3.out (by decide)).mono ?_
  rintro e w4 ⟨rfl, hs, hb⟩
  have HS4 := Aside0.mk hs
  have HB4 := Aside0.mk (HB3.out.trans hb)
  clear hs hb HS3 HB3
  go_wp2_with fail
  refine (put_calls w4 w2.heap.size g 10 _ 9 HS4.out (by decide)).mono ?_
  rintro e w5 ⟨rfl, hs, hb⟩
  rw [ws10] at hs
  have HS5 := Aside0.mk hs
  have HB5 := Aside0.mk (HB4.out.trans hb)
  have hs2 := Kd.C_string Tryd.underlying36 Tryd.underlying5 Tryd.underlying9 (c := c2) (Kd.C_below HC2.out HB5.out)
  rw [show strOfNums [57] = ⟨#[57]⟩ from rfl] at hs2
  clear hs hb HS4 HB4
  go_wp2_with fail
  refine (count_calls w5 w2.heap.size g 10 [513] HS5.out).mono ?_
  rw [count513]
  rintro e w6 ⟨rfl, rfl⟩
  go_wp2_with fail
  refine (bytes_calls w5 w2.heap.size g 10 [513] HS5.out).mono ?_
  rw [byts513]
  rintro e w6 ⟨v6, rfl, ho, hb⟩
  obtain ⟨A6, c6, rfl, hc6, hC6⟩ := Kd.R_reads ho
  have hs6 := Kd.C_string Tryd.underlying36 Tryd.underlying5 Tryd.underlying9 (c := c6) (show Kd.C (Kd.int .u8) w6 A6 2 [1, 2] from hC6)
  rw [show strOfNums [1, 2] = ⟨#[1, 2]⟩ from rfl] at hs6
  have HB6 := Aside0.mk (below_then (below_then HB2.out HB2.out.size HB5.out) (Nat.le_trans HB2.out.size HB5.out.size) hb)
  clear ho hb hC6 hs2
  go_wp2_with fail
  clear hs6
  refine (width_calls 257 w6 (by decide) (by decide)).mono ?_
  rw [width257]
  rintro e w7 ⟨rfl, rfl⟩
  go_wp2_with fail
  go_ret
  exact ⟨rfl, HB6.out⟩
end Go.Proofs.YtcgfheagbaafoaaDoor.Sets
