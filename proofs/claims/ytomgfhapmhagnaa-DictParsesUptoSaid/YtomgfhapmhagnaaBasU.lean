/- wire.Uint and Text: what they answer. -/
import Derived.Test.YtomgfhapmhagnaaBasA
namespace Go.Proofs.Ytomgfhapmhagnaa.Bas
set_option linter.unusedVariables false
set_option linter.unusedSimpArgs false
open Go.RowKit Go.Proofs.YtomgfhapmhagnaaW.PrintWords Go.Proofs.YtomgfhapmhagnaaW.PrintLast Go.Proofs.YtomgfhapmhagnaaW.PrintMore Go.Proofs.Ytomgfhapmhagnaa.Lib

set_option maxRecDepth 100000 in
set_option maxHeartbeats 400000 in
theorem uint_calls (xs : List Int) (len : Nat) (A : Option Addr) (c : Nat) (n : Int) (w : World) (hr : Kd.C (Kd.int .u8) w A len xs) (h0 : 0 ≤ n) (hn : n < 18446744073709551616) (hl : xs.length + 10 ≤ 140737488355328) :
    Calls Try.prog 34 #[.slice A len c, .int .u64 n] w fun e w' => ∃ v, e = .returned v ∧ Kd.R (Kd.int .u8) 5 w' w.heap.size (fun _ => True) v (xs ++ varint n.toNat) ∧ Below w.heap.size w w' := by
  obtain rfl := hr.1
  obtain ⟨n, rfl⟩ := Int.eq_ofNat_of_zero_le h0
  rw [Int.toNat_natCast]
  go_enter Try.func34, Try.ntmps34
  go_wp2_with fail
  refine (own_calls xs _ A c w hr (by omega)).mono ?_
  rintro e w1 ⟨A1, rfl, hC, hb⟩
  have HB := Aside0.mk hb
  have HC := Aside0.mk hC
  clear hb hC
  go_wp2_with fail
  refine (number_clip xs A1 n w1 HC.out (by omega) hl).mono ?_
  rintro e w2 ⟨v, rfl, ho, hb⟩
  have HO := Aside0.mk (Kd.R_lower ho HB.out.size)
  have HB2 := Aside0.mk (below_then HB.out HB.out.size hb)
  clear ho hb
  go_wp2_with fail
  go_ret
  exact ⟨_, rfl, HO.out, HB2.out⟩

set_option maxRecDepth 100000 in
set_option maxHeartbeats 400000 in
theorem text_calls (xs : List Int) (len : Nat) (A : Option Addr) (c : Nat) (s : ByteArray) (w : World) (hr : Kd.C (Kd.int .u8) w A len xs) (hl : xs.length + 10 + s.size ≤ 140737488355328) :
    Calls Try.prog 36 #[.slice A len c, .string s] w fun e w' => ∃ v, e = .returned v ∧ Kd.R (Kd.int .u8) 5 w' w.heap.size (fun _ => True) v (xs ++ varint s.size ++ bytesOf s) ∧ Below w.heap.size w w' := by
  obtain rfl := hr.1
  go_enter Try.func36, Try.ntmps36
  go_wp2_with fail
  refine (own_calls xs _ A c w hr (by omega)).mono ?_
  rintro e w1 ⟨A1, rfl, hC, hb⟩
  have HB := Aside0.mk hb
  have HC := Aside0.mk hC
  clear hb hC
  go_wp2_with fail
  refine (number_clip xs A1 s.size w1 HC.out (by omega) (by omega)).mono ?_
  rintro e w2 ⟨v, rfl, ho, hb⟩
  have HO := Aside0.mk (Kd.own_of_R (enc := Value.int .u8) (h1 := fun _ => rfl) (Kd.R_lower ho HB.out.size))
  have HB2 := Aside0.mk (below_then HB.out HB.out.size hb)
  have hv := varint_le10 (show s.size < 18446744073709551616 by omega)
  clear ho hb
  go_wp2_with (first
    | ((with_reducible refine gate_builtin (b := .append) (xs := #[.tmp 10, .tmp 11]) rfl ?_); at_builtin; refine print_append_str (w0 := w) w.heap.size rfl (.tmp 10) (.tmp 11) 43 9 5 rfl Try.underlying43 Try.underlying9 info5 _ (xs ++ varint s.size) s rfl rfl HO.out HB2.out HB2.out.size ?aL ?_; (case aL => rw [List.length_append]; omega); intro v3 w3 ho3 hb3 hg3; have HO3 := Aside0.mk ho3; have HB3 := Aside0.mk hb3; clear ho3 hb3 hg3))
  go_ret
  exact ⟨_, rfl, Kd.R_of_own (enc := Value.int .u8) (h1 := fun _ => rfl) HO3.out (fun _ _ => trivial), HB3.out⟩

end Go.Proofs.Ytomgfhapmhagnaa.Bas
