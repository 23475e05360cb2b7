import Derived.Test.YtobddbkffefbkaaBasB
import Derived.Test.YtobddbkffefbkaaSum
namespace Go.Proofs.Ytobddbkffefbkaa.Bas
set_option linter.unusedVariables false
set_option linter.unusedSimpArgs false
open Go.RowKit Go.Proofs.YtobddbkffefbkaaW.PrintWords Go.Proofs.YtobddbkffefbkaaW.PrintLast Go.Proofs.YtobddbkffefbkaaW.PrintMore Go.Proofs.Ytobddbkffefbkaa.Lib

/-- A frame's bytes behind its sum. -/
def framed (xs : List Int) : List Int := le4 xs.length ++ xs
def frame (xs : List Int) : List Int := le4 (Crc.sum (framed xs)) ++ framed xs
theorem framed_bytes {xs : List Int} (h : Bytes xs) : Bytes (framed xs) := (le4_bytes _).append h
theorem framed_length (xs : List Int) : (framed xs).length = xs.length + 4 := by simp [framed, le4_length]; omega
theorem frame_bytes {xs : List Int} (h : Bytes xs) : Bytes (frame xs) := (le4_bytes _).append (framed_bytes h)
theorem frame_length (xs : List Int) : (frame xs).length = xs.length + 8 := by simp [frame, framed_length, le4_length]; omega

set_option maxRecDepth 100000 in
set_option maxHeartbeats 400000 in
theorem frame_no (xs : List Int) (A : Option Addr) (c : Nat) (w : World) (h : 1048576 < xs.length) (hm : xs.length ≤ 9223372036854775807) :
    Calls Try.prog 14 #[.slice A xs.length c] w fun e w' => e = .returned (.tuple #[.slice none 0 0, .int .i64 1]) ∧ w = w' := by
  go_enter Try.func14, Try.ntmps14
  go_wp2
  go_ret2
  exact ⟨rfl, rfl⟩

set_option maxRecDepth 100000 in
set_option maxHeartbeats 400000 in
theorem frame_yes (xs : List Int) (len : Nat) (A : Option Addr) (c : Nat) (w : World) (hr : Kd.C (Kd.int .u8) w A len xs) (hb : Bytes xs) (h : xs.length ≤ 1048576) :
    Calls Try.prog 14 #[.slice A len c] w fun e w' => ∃ v, e = .returned (.tuple #[v, .int .i64 0]) ∧ Kd.R (Kd.int .u8) 5 w' w.heap.size (fun _ => True) v (frame xs) ∧ Below w.heap.size w w' := by
  obtain rfl := hr.1
  have HR := Aside0.mk hr
  have HX := Aside0.mk hb
  clear hr hb
  go_enter Try.func14, Try.ntmps14
  go_wp2_with fail
  refine (four_calls xs.length w (by omega)).mono ?_
  rintro e w1 ⟨v1, rfl, ho, hb⟩
  have HO := Aside0.mk ho
  have HB := Aside0.mk hb
  have HR1 := Aside0.mk (Kd.C_below HR.out hb)
  clear ho hb HR
  go_wp2_with (first
    | ((with_reducible refine gate_builtin (b := .append) (xs := #[.tmp 11, .tmp 12]) rfl ?_); at_builtin; refine Kd.R_append_rows (Kd.int .u8) (w0 := w) w.heap.size rfl (.tmp 11) (.tmp 12) 22 5 (.int .u8 0) 1 rfl Try.underlying22 info5 rfl (by decide) (by omega) v1 (le4 xs.length) xs A xs.length c (fun _ => True) (fun _ => False) rfl rfl HO.out HR1.out ?aK (fun _ h => h.elim) (fun _ _ => trivial) HB.out HB.out.size ?aL ?_; (case aK => exact fun _ _ h => h); (case aL => rw [le4_length]; omega); intro v2 w2 ho2 hb2 hg2 ha2; replace ho2 : Kd.R (Kd.int .u8) 5 w2 w.heap.size (fun _ => True) v2 (framed xs) := ho2; obtain ⟨A2, c2, rfl, hc2, hC2⟩ := Kd.R_reads ho2; have HC2 := Aside0.mk hC2; have HB2 := Aside0.mk hb2; clear ho2 hb2 hg2 ha2 hC2 HO HR1)
    | fail)
  refine (Sum.sum_calls (framed xs) _ A2 c2 w2 HC2.out (framed_bytes HX.out)).mono ?_
  rintro e w3 ⟨rfl, hb3⟩
  have HB3 := Aside0.mk (below_then HB2.out HB2.out.size hb3)
  have HC3 := Aside0.mk (Kd.C_below HC2.out hb3)
  clear hb3 HB2 HC2
  go_wp2_with fail
  have hlt := Crc.sum_lt (framed xs) (framed_bytes HX.out)
  refine (four_calls (Crc.sum (framed xs)) w3 hlt).mono ?_
  rintro e w4 ⟨v4, rfl, ho, hb⟩
  have HO := Aside0.mk (Kd.R_lower ho HB3.out.size)
  have HB4 := Aside0.mk (below_then HB3.out HB3.out.size hb)
  have HC4 := Aside0.mk (Kd.C_below HC3.out hb)
  have HL := Aside0.mk (framed_length xs)
  clear ho hb HB3 HC3
  go_wp2_with (first
    | ((with_reducible refine gate_builtin (b := .append) (xs := #[.tmp 16, .tmp 17]) rfl ?_); at_builtin; refine Kd.R_append_rows (Kd.int .u8) (w0 := w) w.heap.size rfl (.tmp 16) (.tmp 17) 22 5 (.int .u8 0) 1 rfl Try.underlying22 info5 rfl (by decide) (by omega) v4 (le4 (Crc.sum (framed xs))) (framed xs) A2 (framed xs).length c2 (fun _ => True) (fun _ => False) rfl rfl HO.out HC4.out ?aK (fun _ h => h.elim) (fun _ _ => trivial) HB4.out HB4.out.size ?aL ?_; (case aK => exact fun _ _ h => h); (case aL => rw [le4_length, HL.out]; omega); intro v5 w5 ho5 hb5 hg5 ha5; have HO5 := Aside0.mk ho5; have HB5 := Aside0.mk hb5; clear ho5 hb5 hg5 ha5)
    | fail)
  go_ret2
  exact ⟨_, rfl, HO5.out, HB5.out⟩
end Go.Proofs.Ytobddbkffefbkaa.Bas
