import Derived.Test.YtobddbkffefbkaaUnframe
namespace Go.Proofs.Ytobddbkffefbkaa.Bas
set_option linter.unusedVariables false
set_option linter.unusedSimpArgs false
open Go.RowKit Go.Proofs.YtobddbkffefbkaaW.PrintWords Go.Proofs.YtobddbkffefbkaaW.PrintLast Go.Proofs.YtobddbkffefbkaaW.PrintMore Go.Proofs.Ytobddbkffefbkaa.Lib

theorem varint300 : varint 300 = [172, 2] := by
  rw [varint_big (by decide), varint_small (by decide)]; rfl
theorem unframe_ab : unframe (frame [97, 98]) = ([97, 98], 0) := by decide +kernel
theorem sum_19 : Crc.sum [49, 50, 51, 52, 53, 54, 55, 56, 57] = 3421780262 := by decide +kernel

set_option maxRecDepth 100000 in
set_option maxHeartbeats 400000 in
theorem awake_calls (w : World) :
    Calls Try.prog 11 #[] w fun e w' => e = .returned (.bool true) ∧ Below w.heap.size w w' := by
  have kc := fun (w : World) (C : Array Value) (n c : Nat) => Lib.run_convert_bytes_const (P := Try.prog) w 22 5 C n c Try.underlying22 Try.underlying5
  have hC1 : ∀ w : World, Kd.C (Kd.int .u8) (w.alloc (.cells #[.int .u8 97, .int .u8 98] 5 (2, 3))) (some ⟨w.heap.size, 0, none⟩) 2 [97, 98] := fun w => C_const w [97, 98] (2, 3) (by decide)
  have hC4 : ∀ w : World, Kd.C (Kd.int .u8) (w.alloc (.cells #[.int .u8 49, .int .u8 50, .int .u8 51, .int .u8 52, .int .u8 53, .int .u8 54, .int .u8 55, .int .u8 56, .int .u8 57] 5 (9, 10))) (some ⟨w.heap.size, 0, none⟩) 9 [49, 50, 51, 52, 53, 54, 55, 56, 57] := fun w => C_const w [49, 50, 51, 52, 53, 54, 55, 56, 57] (9, 10) (by decide)
  have K1 := Aside0.mk hC1
  have K4 := Aside0.mk hC4
  clear hC1 hC4
  go_enter Try.func11, Try.ntmps11
  go_wp2_with fail
  refine (frame_yes [97, 98] 2 _ 2 _ (K1.out _) (bytes_of (by decide)) (by decide)).mono ?_
  rintro e w2 ⟨v2, rfl, ho, hb⟩
  have HB2 := Aside0.mk (below_then (below_alloc (Below.refl w.heap.size w) _) (by simp) hb)
  obtain ⟨A2, c2, rfl, hc2, hC2⟩ := Kd.R_reads ho
  rw [frame_length] at hC2 hc2 ⊢
  clear ho hb
  go_wp2_with fail
  refine (unframe_calls (frame [97, 98]) _ A2 c2 w2 hC2 (frame_bytes (bytes_of (by decide))) hc2).mono ?_
  rintro e w3 ⟨v3, rfl, ho, hb⟩
  rw [unframe_ab] at ho ⊢
  obtain ⟨A3, c3, rfl, hc3, hC3⟩ := Kd.R_reads ho
  have HB3 := Aside0.mk (below_then HB2.out HB2.out.size hb)
  have HC3 := Aside0.mk (show Kd.C (Kd.int .u8) w3 A3 2 [97, 98] from hC3)
  clear ho hb hC3 hC2 HB2
  go_wp2_with fail
  refine (Sum.sum_calls _ 9 _ 9 _ (K4.out _) (bytes_of (by decide))).mono ?_
  rw [sum_19]
  rintro e w5 ⟨rfl, hb⟩
  have HB5 := Aside0.mk (below_then (HB3.out.alloc HB3.out.size _) (Nat.le_trans HB3.out.size (by simp)) hb)
  have HC5 := Aside0.mk (Kd.C_below (Kd.C_alloc HC3.out _) hb)
  clear hb K1 K4 kc HB3 HC3
  go_wp2_with fail
  refine (uint_calls [] 0 none 0 300 w5 (Kd.C_nil _ _) (by decide) (by decide) (by decide)).mono ?_
  rintro e w6 ⟨v6, rfl, ho, hb⟩
  rw [List.nil_append, show (300 : Int).toNat = 300 from rfl, varint300] at ho
  obtain ⟨A6, c6, rfl, hc6, hC6⟩ := Kd.R_reads ho
  have hs6 := Kd.C_string Try.underlying22 Try.underlying5 Try.underlying9 (c := c6) (show Kd.C (Kd.int .u8) w6 A6 2 [172, 2] from hC6)
  rw [show strOfNums [172, 2] = ⟨#[172, 2]⟩ from rfl] at hs6
  have HB6 := Aside0.mk (below_then HB5.out HB5.out.size hb)
  have HC6 := Aside0.mk (Kd.C_below HC5.out hb)
  clear ho hb hC6 HB5 HC5
  go_wp2_with fail
  clear hs6
  refine (int_calls [] 0 none 0 (-2) w6 (Kd.C_nil _ _) (by decide) (by decide) (by decide)).mono ?_
  rintro e w7 ⟨v7, rfl, ho, hb⟩
  rw [List.nil_append, show zigzag (-2) = 3 from rfl, varint_small (by decide)] at ho
  obtain ⟨A7, c7, rfl, hc7, hC7⟩ := Kd.R_reads ho
  have hs7 := Kd.C_string Try.underlying22 Try.underlying5 Try.underlying9 (c := c7) (show Kd.C (Kd.int .u8) w7 A7 1 [3] from hC7)
  rw [show strOfNums [3] = ⟨#[3]⟩ from rfl] at hs7
  have HB7 := Aside0.mk (below_then HB6.out HB6.out.size hb)
  have hs8 := Kd.C_string Try.underlying22 Try.underlying5 Try.underlying9 (c := c3) (Kd.C_below HC6.out hb)
  rw [show strOfNums [97, 98] = ⟨#[97, 98]⟩ from rfl] at hs8
  clear ho hb hC7 HB6 HC6
  go_wp2_with fail
  go_ret
  exact ⟨rfl, HB7.out⟩
end Go.Proofs.Ytobddbkffefbkaa.Bas
