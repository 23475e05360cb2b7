/- gristmillref01.Uint and Text: what they answer. -/
import Derived.Test.YtomgfhapmhagnaaBasA
namespace Go.Proofs.Ytomgfhapmhagnaa.Bas
set_option linter.unusedVariables false
set_option linter.unusedSimpArgs false
open Go.RowKit Go.Proofs.YtomgfhapmhagnaaW.PrintWords Go.Proofs.YtomgfhapmhagnaaW.PrintLast Go.Proofs.YtomgfhapmhagnaaW.PrintMore Go.Proofs.Ytomgfhapmhagnaa.Lib

set_option maxRecDepth 100000 in
set_option maxHeartbeats 400000 in
theorem refuint_calls (n : Int) (w : World) (h0 : 0 ≤ n) (hn : n < 18446744073709551616) :
    Calls Try.prog 19 #[.int .u64 n] w fun e w' => ∃ v, e = .returned v ∧ Kd.R (Kd.int .u8) 5 w' w.heap.size (fun _ => True) v (varint n.toNat) ∧ Below w.heap.size w w' := by
  obtain ⟨n, rfl⟩ := Int.eq_ofNat_of_zero_le h0
  rw [Int.toNat_natCast]
  have hn : n < 18446744073709551616 := by omega
  have hv := varint_le10 hn
  clear h0
  go_enter Try.func19, Try.ntmps19
  go_wp2
  go_loopw [0, 3] (fun x v w' => ∃ (m : Nat) (acc : List Int), x = .int .u64 m ∧ m < 18446744073709551616 ∧ Aside0 (acc ++ varint m = varint n) ∧ Aside0 (Kd.R (Kd.int .u8) 5 w' w.heap.size (fun _ => True) v acc) ∧ Aside0 (Below w.heap.size w w')) (fun x _ _ => (intOf x).toNat)
  case atStart => exact ⟨n, [], rfl, hn, ⟨rfl⟩, ⟨Kd.R_nil _ _ _ _ _⟩, ⟨Below.refl _ _⟩⟩
  case round =>
    obtain ⟨m, acc, rfl, hm, HE, HO, HB⟩ := hrel
    have hlen : acc.length + (varint m).length ≤ 10 := by
      have := congrArg List.length HE.out
      simp only [List.length_append] at this
      omega
    by_cases hbig : 128 ≤ m
    · rw [varint_big hbig] at HE hlen
      have hq : m / 128 < m := by omega
      have hd : (m : Int) / 128 = ((m / 128 : Nat) : Int) := by omega
      have hz : ((m / 128 : Nat) : Int) ≠ 0 := by omega
      have hz1 : (((m / 128 : Nat) : Int) == 0) = false := beq_eq_false_iff_ne.2 hz
      have hb : (m : Int) % 128 = ((m % 128 : Nat) : Int) := by omega
      have hb2 : ((m % 128 : Nat) : Int) + 128 = ((m % 128 + 128 : Nat) : Int) := by omega
      have hlt : m % 128 < 128 := Nat.mod_lt _ (by decide)
      clear hz
      generalize m / 128 = m2 at *
      generalize m % 128 = lo at *
      rw [List.length_cons] at hlen
      have HE2 := Aside0.mk ((List.append_assoc acc [((lo + 128 : Nat) : Int)] (varint m2)).trans HE.out)
      clear HE
      generalize ((lo + 128 : Nat) : Int) = hi at *
      go_wp2_with (first
        | ((with_reducible refine gate_builtin (b := .append) (xs := #[.tmp 16, .tmp 19]) rfl ?_); at_builtin; refine Kd.R_append (Kd.int .u8) (w0 := w) w.heap.size rfl (.tmp 16) (.tmp 19) 43 5 (.int .u8 0) 1 rfl Try.underlying43 info5 rfl (by decide) (by omega) (_) (acc) (hi) [.int .u8 (hi)] (fun _ => True) (fun _ => False) rfl rfl rfl (fun _ hk => hk.elim) (fun _ _ => trivial) HO.out HB.out HB.out.size (by omega) ?_; intro v2 w2 ho2 hb2 hg2 ha2; have HO2 := Aside0.mk ho2; have HB2 := Aside0.mk hb2; clear ho2 hb2 hg2 ha2)
        | fail)
      go_roundw
      case rel => exact ⟨m2, acc ++ [hi], rfl, by omega, HE2, HO2, HB2⟩
      case measure => simp [intOf]; omega
    · have hs := varint_small (show m < 128 by omega)
      rw [hs] at HE hlen
      rw [List.length_singleton] at hlen
      have hd : (m : Int) / 128 = 0 := by omega
      have hb : (m : Int) % 128 = (m : Int) := by omega
      go_wp2_with (first
        | ((with_reducible refine gate_builtin (b := .append) (xs := #[.tmp 12, .tmp 14]) rfl ?_); at_builtin; refine Kd.R_append (Kd.int .u8) (w0 := w) w.heap.size rfl (.tmp 12) (.tmp 14) 43 5 (.int .u8 0) 1 rfl Try.underlying43 info5 rfl (by decide) (by omega) (_) (acc) (m) [.int .u8 (m)] (fun _ => True) (fun _ => False) rfl rfl rfl (fun _ hk => hk.elim) (fun _ _ => trivial) HO.out HB.out HB.out.size (by omega) ?_; intro v2 w2 ho2 hb2 hg2 ha2; have HO2 := Aside0.mk ho2; have HB2 := Aside0.mk hb2; clear ho2 hb2 hg2 ha2)
        | fail)
      go_ret
      exact ⟨_, rfl, by rw [← HE.out]; exact HO2.out, HB2.out⟩

set_option maxRecDepth 100000 in
set_option maxHeartbeats 400000 in
theorem reftext_calls (s : ByteArray) (w : World) (hl : 10 + s.size ≤ 140737488355328) :
    Calls Try.prog 50 #[.string s] w fun e w' => ∃ v, e = .returned v ∧ Kd.R (Kd.int .u8) 5 w' w.heap.size (fun _ => True) v (varint s.size ++ bytesOf s) ∧ Below w.heap.size w w' := by
  go_enter Try.func50, Try.ntmps50
  go_wp2_with fail
  refine (refuint_calls s.size w (by omega) (by omega)).mono ?_
  rintro e w1 ⟨v, rfl, ho, hb⟩
  rw [Int.toNat_natCast] at ho
  have hv := varint_le10 (show s.size < 18446744073709551616 by omega)
  have HO := Aside0.mk (Kd.own_of_R (enc := Value.int .u8) (h1 := fun _ => rfl) ho)
  have HB := Aside0.mk hb
  clear ho hb
  go_wp2_with (first
    | ((with_reducible refine gate_builtin (b := .append) (xs := #[.tmp 8, .tmp 9]) rfl ?_); at_builtin; refine print_append_str (w0 := w) w.heap.size rfl (.tmp 8) (.tmp 9) 43 9 5 rfl Try.underlying43 Try.underlying9 info5 _ (varint s.size) s rfl rfl HO.out HB.out HB.out.size ?aL ?_; (case aL => omega); intro v3 w3 ho3 hb3 hg3; have HO3 := Aside0.mk ho3; have HB3 := Aside0.mk hb3; clear ho3 hb3 hg3)
    | fail)
  go_ret
  exact ⟨_, rfl, Kd.R_of_own (enc := Value.int .u8) (h1 := fun _ => rfl) HO3.out (fun _ _ => trivial), HB3.out⟩
end Go.Proofs.Ytomgfhapmhagnaa.Bas
