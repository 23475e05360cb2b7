import Derived.Test.YtobddbkffefbkaaBasA
namespace Go.Proofs.Ytobddbkffefbkaa.Bas
set_option linter.unusedVariables false
set_option linter.unusedSimpArgs false
open Go.RowKit Go.Proofs.YtobddbkffefbkaaW.PrintWords Go.Proofs.YtobddbkffefbkaaW.PrintLast Go.Proofs.YtobddbkffefbkaaW.PrintMore Go.Proofs.Ytobddbkffefbkaa.Lib

set_option maxRecDepth 100000 in
set_option maxHeartbeats 400000 in
theorem uint_calls (xs : List Int) (len : Nat) (A : Option Addr) (c : Nat) (n : Int) (w : World) (hr : Kd.C (Kd.int .u8) w A len xs) (h0 : 0 ≤ n) (hn : n < 18446744073709551616) (hl : xs.length + 10 ≤ 140737488355328) :
    Calls Try.prog 16 #[.slice A len c, .int .u64 n] w fun e w' => ∃ v, e = .returned v ∧ Kd.R (Kd.int .u8) 5 w' w.heap.size (fun _ => True) v (xs ++ varint n.toNat) ∧ Below w.heap.size w w' := by
  obtain rfl := hr.1
  obtain ⟨n, rfl⟩ := Int.eq_ofNat_of_zero_le h0
  rw [Int.toNat_natCast]
  go_enter Try.func16, Try.ntmps16
  go_wp2_with fail
  refine (own_calls xs _ A c w hr (by omega)).mono ?_
  rintro e w1 ⟨A1, rfl, hC, hb⟩
  have HB := Aside0.mk hb
  have HC := Aside0.mk hC
  clear hb hC
  go_wp2_with fail
  refine (number_clip xs A1 n w1 HC.out (by omega) hl).mono ?_
  rintro e w2 ⟨v, rfl, ho, hb⟩
  have HO := Aside0.mk (Kd.R_lower ho HB.out.size)
  have HB2 := Aside0.mk (below_then HB.out HB.out.size hb)
  clear ho hb
  go_wp2_with fail
  go_ret
  exact ⟨_, rfl, HO.out, HB2.out⟩

set_option maxRecDepth 100000 in
set_option maxHeartbeats 400000 in
theorem zigzag_calls (n : Int) (w : World) (h0 : -9223372036854775808 ≤ n) (hn : n < 9223372036854775808) :
    Calls Try.prog 45 #[.int .i64 n] w fun e w' => e = .returned (.int .u64 (zigzag n : Nat)) ∧ w = w' := by
  go_enter Try.func45, Try.ntmps45
  have hz := zigzag_bits n h0 hn
  have HZ := Aside0.mk hz
  clear hz
  go_wp2
  go_ret
  exact ⟨congrArg (fun i => Ending.returned (.int .u64 i)) HZ.out, rfl⟩

set_option maxRecDepth 100000 in
set_option maxHeartbeats 400000 in
theorem int_calls (xs : List Int) (len : Nat) (A : Option Addr) (c : Nat) (n : Int) (w : World) (hr : Kd.C (Kd.int .u8) w A len xs) (h0 : -9223372036854775808 ≤ n) (hn : n < 9223372036854775808) (hl : xs.length + 10 ≤ 140737488355328) :
    Calls Try.prog 17 #[.slice A len c, .int .i64 n] w fun e w' => ∃ v, e = .returned v ∧ Kd.R (Kd.int .u8) 5 w' w.heap.size (fun _ => True) v (xs ++ varint (zigzag n)) ∧ Below w.heap.size w w' := by
  obtain rfl := hr.1
  go_enter Try.func17, Try.ntmps17
  go_wp2_with fail
  refine (own_calls xs _ A c w hr (by omega)).mono ?_
  rintro e w1 ⟨A1, rfl, hC, hb⟩
  have HB := Aside0.mk hb
  have HC := Aside0.mk hC
  clear hb hC
  go_wp2_with fail
  refine (zigzag_calls n w1 h0 hn).mono ?_
  rintro e w2 ⟨rfl, rfl⟩
  go_wp2_with fail
  refine (number_clip xs A1 (zigzag n) w1 HC.out (zigzag_lt n h0 hn) hl).mono ?_
  rintro e w2 ⟨v, rfl, ho, hb⟩
  have HO := Aside0.mk (Kd.R_lower ho HB.out.size)
  have HB2 := Aside0.mk (below_then HB.out HB.out.size hb)
  clear ho hb
  go_wp2_with fail
  go_ret
  exact ⟨_, rfl, HO.out, HB2.out⟩

set_option maxRecDepth 100000 in
set_option maxHeartbeats 400000 in
theorem text_calls (xs : List Int) (len : Nat) (A : Option Addr) (c : Nat) (s : ByteArray) (w : World) (hr : Kd.C (Kd.int .u8) w A len xs) (hl : xs.length + 10 + s.size ≤ 140737488355328) :
    Calls Try.prog 18 #[.slice A len c, .string s] w fun e w' => ∃ v, e = .returned v ∧ Kd.R (Kd.int .u8) 5 w' w.heap.size (fun _ => True) v (xs ++ varint s.size ++ bytesOf s) ∧ Below w.heap.size w w' := by
  obtain rfl := hr.1
  go_enter Try.func18, Try.ntmps18
  go_wp2_with fail
  refine (own_calls xs _ A c w hr (by omega)).mono ?_
  rintro e w1 ⟨A1, rfl, hC, hb⟩
  have HB := Aside0.mk hb
  have HC := Aside0.mk hC
  clear hb hC
  go_wp2_with fail
  refine (number_clip xs A1 s.size w1 HC.out (by omega) (by omega)).mono ?_
  rintro e w2 ⟨v, rfl, ho, hb⟩
  have HO := Aside0.mk (Kd.own_of_R (enc := Value.int .u8) (h1 := fun _ => rfl) (Kd.R_lower ho HB.out.size))
  have HB2 := Aside0.mk (below_then HB.out HB.out.size hb)
  have hv := varint_le10 (show s.size < 18446744073709551616 by omega)
  clear ho hb
  go_wp2_with (first
    | ((with_reducible refine gate_builtin (b := .append) (xs := #[.tmp 10, .tmp 11]) rfl ?_); at_builtin; refine print_append_str (w0 := w) w.heap.size rfl (.tmp 10) (.tmp 11) 22 9 5 rfl Try.underlying22 Try.underlying9 info5 _ (xs ++ varint s.size) s rfl rfl HO.out HB2.out HB2.out.size ?aL ?_; (case aL => rw [List.length_append]; omega); intro v3 w3 ho3 hb3 hg3; have HO3 := Aside0.mk ho3; have HB3 := Aside0.mk hb3; clear ho3 hb3 hg3))
  go_ret
  exact ⟨_, rfl, Kd.R_of_own (enc := Value.int .u8) (h1 := fun _ => rfl) HO3.out (fun _ _ => trivial), HB3.out⟩

set_option maxRecDepth 100000 in
set_option maxHeartbeats 400000 in
theorem four_calls (n : Nat) (w : World) (hn : n < 4294967296) :
    Calls Try.prog 41 #[.int .u32 n] w fun e w' => ∃ v, e = .returned v ∧ Kd.R (Kd.int .u8) 5 w' w.heap.size (fun _ => True) v (le4 n) ∧ Below w.heap.size w w' := by
  go_enter Try.func41, Try.ntmps41
  have HB := Aside0.mk (Below.refl w.heap.size w)
  have e0 : (n : Int) % 256 = ((n % 256 : Nat) : Int) := by omega
  have e1 : (n : Int) / 256 % 256 = ((n / 256 % 256 : Nat) : Int) := by omega
  have e2 : (n : Int) / 65536 % 256 = ((n / 65536 % 256 : Nat) : Int) := by omega
  have e3 : (n : Int) / 16777216 = ((n / 16777216 % 256 : Nat) : Int) := by omega
  have HL := Aside0.mk (show le4 n = [((n % 256 : Nat) : Int), ((n / 256 % 256 : Nat) : Int), ((n / 65536 % 256 : Nat) : Int), ((n / 16777216 % 256 : Nat) : Int)] from rfl)
  generalize ((n % 256 : Nat) : Int) = b0 at *
  generalize ((n / 256 % 256 : Nat) : Int) = b1 at *
  generalize ((n / 65536 % 256 : Nat) : Int) = b2 at *
  generalize ((n / 16777216 % 256 : Nat) : Int) = b3 at *
  go_wp2_with (first
    | ((with_reducible refine gate_dst (N := 14) rfl ?_); refine Kd.R_lit (Kd.int .u8) (w0 := w) w.heap.size 5 ?hg (N := 14) ?hd (xs := [b0, b1, b2, b3]) (inner := [.int .u8 b0, .int .u8 b1, .int .u8 b2, .int .u8 b3]) (ok := fun _ => True) (okp := fun _ => True) ?hr ?hp (fun _ hk => hk) trivial HB.out (Nat.le_refl _) (by simp) ?_; (case hd => rfl); (case hg => rfl); (case hr => first | (go_simp; done) | (go_simp; rfl)); (case hp => exact (Reps.one (show Kd.M (Kd.int .u8) _ _ _ b0 [.int .u8 b0] from rfl) (Reps.one (show Kd.M (Kd.int .u8) _ _ _ b1 [.int .u8 b1] from rfl) (Reps.one (show Kd.M (Kd.int .u8) _ _ _ b2 [.int .u8 b2] from rfl) (Reps.one (show Kd.M (Kd.int .u8) _ _ _ b3 [.int .u8 b3] from rfl) (Reps.none _ _)))))); intro v1 w1 ho1 hb1 hg1 ha1; have HO := Aside0.mk ho1; have HB1 := Aside0.mk hb1; clear ho1 hb1 hg1 ha1))
  go_ret
  exact ⟨_, rfl, by rw [HL.out]; exact HO.out, HB1.out⟩

theorem four_calls' (n : Int) (w : World) (h0 : 0 ≤ n) (hn : n < 4294967296) :
    Calls Try.prog 41 #[.int .u32 n] w fun e w' => ∃ v, e = .returned v ∧ Kd.R (Kd.int .u8) 5 w' w.heap.size (fun _ => True) v (le4 n.toNat) ∧ Below w.heap.size w w' := by
  obtain ⟨n, rfl⟩ := Int.eq_ofNat_of_zero_le h0
  exact four_calls n w (by omega)

set_option maxRecDepth 100000 in
set_option maxHeartbeats 400000 in
theorem equal_calls (xs ys : List Int) (A A2 : Option Addr) (c c2 : Nat) (w : World) (hr : Kd.C (Kd.int .u8) w A xs.length xs) (hr2 : Kd.C (Kd.int .u8) w A2 ys.length ys) :
    Calls Try.prog 42 #[.slice A xs.length c, .slice A2 ys.length c2] w fun e w' => e = .returned (.bool (decide (xs = ys))) ∧ Drawn0 w w' := by
  have HR := Aside0.mk hr
  have HR2 := Aside0.mk hr2
  have hm : xs.length ≤ 9223372036854775807 := hr.2.1
  clear hr hr2
  by_cases hlen : xs.length = ys.length
  · have c0 : ((xs.length : Int) != (ys.length : Int)) = false := by rw [hlen]; simp
    have hlen2 := Aside0.mk hlen
    go_enter Try.func42, Try.ntmps42
    clear hlen
    go_wp2
    go_loopw [13] (fun i w' => ∃ k : Nat, k ≤ xs.length ∧ i = .int .i64 k ∧ Aside0 (xs.take k = ys.take k) ∧ Drawn0 w w') (fun i _ => xs.length - (intOf i).toNat)
    case atStart => exact ⟨0, by omega, rfl, ⟨rfl⟩, Drawn0.refl _⟩
    case round =>
      obtain ⟨k, hk, rfl, HE, ⟨m1, rfl⟩⟩ := hrel
      by_cases hlt : k < xs.length
      · have hlt2 : k < ys.length := by have := hlen2.out; omega
        obtain ⟨ad, e, hcell⟩ := Kd.at_int HR.out k (by omega) (by omega)
        cases e
        obtain ⟨ad2, e, hcell2⟩ := Kd.at_int HR2.out k (by omega) (by omega)
        cases e
        simp only [Int.toNat_natCast, rd_nat] at hcell hcell2
        have hi1 : (k : Int) < (xs.length : Int) := by omega
        have hi2 : (k : Int) < (ys.length : Int) := by omega
        have hi0 : (0 : Int) ≤ (k : Int) := by omega
        have t1 := Aside0.mk (take_snoc xs k hlt)
        have t2 := Aside0.mk (take_snoc ys k hlt2)
        by_cases hb : xs.getD k 0 = ys.getD k 0
        · have hbb : (xs.getD k 0 != ys.getD k 0) = false := by rw [hb]; simp
          have t2b := Aside0.mk (show ys.take (k + 1) = ys.take k ++ [xs.getD k 0] by rw [hb]; exact t2.out)
          clear hb t2
          generalize xs.getD k 0 = bx at *
          generalize ys.getD k 0 = yb at *
          go_wp2
          go_quiet (fail)
          go_wp2
          go_roundw
          case rel => exact ⟨k + 1, by omega, by go_num, ⟨by rw [t1.out, t2b.out, HE.out]⟩, by repeat (first | exact Drawn0.refl _ | apply Drawn0.step)⟩
          case measure => simp [intOf]; omega
        · have hbb : (xs.getD k 0 != ys.getD k 0) = true := by rw [bne_iff_ne]; exact hb
          have hne := Aside0.mk (show decide (xs = ys) = false by
            apply decide_eq_false
            rintro rfl
            exact hb rfl)
          clear hb t1 t2
          generalize xs.getD k 0 = bx at *
          generalize ys.getD k 0 = yb at *
          go_wp2
          go_quiet (fail)
          go_wp2
          go_ret
          exact ⟨by rw [hne.out]; rfl, by repeat (first | exact Drawn0.refl _ | apply Drawn0.step)⟩
      · have : k = xs.length := by omega
        subst this
        have hne := Aside0.mk (show decide (xs = ys) = true by
          apply decide_eq_true
          have h := HE.out
          rw [List.take_length, hlen2.out, List.take_length] at h
          exact h)
        clear HE
        go_wp2
        go_ret
        exact ⟨by rw [hne.out]; rfl, by repeat (first | exact Drawn0.refl _ | apply Drawn0.step)⟩
  · have c0 : ((xs.length : Int) != (ys.length : Int)) = true := by rw [bne_iff_ne]; omega
    have hne := Aside0.mk (show decide (xs = ys) = false by
      apply decide_eq_false
      rintro rfl
      exact hlen rfl)
    clear hlen
    go_enter Try.func42, Try.ntmps42
    go_wp2
    go_ret
    exact ⟨by rw [hne.out]; rfl, Drawn0.refl _⟩

theorem equal_calls' (xs ys : List Int) (n n2 : Nat) (A A2 : Option Addr) (c c2 : Nat) (w : World) (hr : Kd.C (Kd.int .u8) w A n xs) (hr2 : Kd.C (Kd.int .u8) w A2 n2 ys) :
    Calls Try.prog 42 #[.slice A n c, .slice A2 n2 c2] w fun e w' => e = .returned (.bool (decide (xs = ys))) ∧ Drawn0 w w' := by
  obtain rfl := hr.1
  obtain rfl := hr2.1
  exact equal_calls xs ys A A2 c c2 w hr hr2
end Go.Proofs.Ytobddbkffefbkaa.Bas
