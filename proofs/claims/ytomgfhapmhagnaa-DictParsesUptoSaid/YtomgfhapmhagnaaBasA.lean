import Derived.Test.YtomgfhapmhagnaaLib
import Derived.Test.YtomgfhapmhagnaaChecked
import Derived.WalkSpells
import Derived.Outline
namespace Go.Proofs.Ytomgfhapmhagnaa.Bas
set_option linter.unusedVariables false
set_option linter.unusedSimpArgs false
open Go.RowKit Go.Proofs.YtomgfhapmhagnaaW.PrintWords Go.Proofs.YtomgfhapmhagnaaW.PrintLast Go.Proofs.YtomgfhapmhagnaaW.PrintMore Go.Proofs.Ytomgfhapmhagnaa.Lib

theorem info5s : (Try.prog.info? 5).map (·.size) = some 1 := by kernel_rfl
theorem info5 : (Try.prog.info? 5).map (fun i => (i.zero, i.size, i.bytes)) = some (some (.int .u8 0), 1, 1) := by kernel_rfl

set_option maxRecDepth 100000 in
set_option maxHeartbeats 400000 in
theorem clone_calls (xs : List Int) (len : Nat) (A : Option Addr) (c : Nat) (w : World) (hr : Kd.C (Kd.int .u8) w A len xs) (hl : xs.length ≤ 140737488355328) :
    Calls Try.prog 69 #[.slice A len c] w fun e w' => ∃ v, e = .returned v ∧ Kd.R (Kd.int .u8) 5 w' w.heap.size (fun _ => True) v xs ∧ Below w.heap.size w w' := by
  obtain rfl := hr.1
  have HR := Aside0.mk hr
  have HB := Aside0.mk (Below.refl w.heap.size w)
  clear hr
  have heq := fun u : World => Lib.run_eql_slice_nil (P := Try.prog) u 43 5 A xs.length c 0 0 Try.underlying43
  rcases A with _ | ad
  · have hx : xs = [] := by
      rcases xs with _ | ⟨x, l⟩
      · rfl
      · obtain ⟨ad, h, _⟩ := HR.out.2.2 (by simp)
        cases h
    subst hx
    simp only [List.length_nil, Option.isNone_none] at heq
    go_enter Try.func69, Try.ntmps69
    go_wp2
    go_ret
    exact ⟨_, rfl, Kd.R_nil _ _ _ _ _, HB.out⟩
  · go_enter Try.func69, Try.ntmps69
    go_wp2_with (first
      | ((with_reducible refine gate_dst (N := 5) rfl ?_); refine Kd.R_lit (Kd.int .u8) (w0 := w) w.heap.size 5 ?hg (N := 5) ?hd (xs := ([] : List Int)) (inner := []) (ok := fun _ => True) (okp := fun _ => True) ?hr (Reps.none _ _) (fun _ hk => hk) trivial HB.out (Nat.le_refl _) (by simp) ?_; (case hd => rfl); (case hg => rfl); (case hr => first | (go_simp; done) | (go_simp; rfl)); intro v1 w1 ho1 hb1 hg1 ha1; have HO := Aside0.mk ho1; have HB1 := Aside0.mk hb1; have HR1 := Aside0.mk (Kd.C_below HR.out hb1); clear ho1 hb1 hg1 ha1)
      | ((with_reducible refine gate_builtin (b := .append) (xs := #[.tmp 5, .tmp 6]) rfl ?_); at_builtin; refine Kd.R_append_rows (Kd.int .u8) (w0 := w) w.heap.size rfl (.tmp 5) (.tmp 6) 43 5 (.int .u8 0) 1 rfl Try.underlying43 info5 rfl (by decide) (by omega) v1 [] xs (some ad) xs.length c (fun _ => True) (fun _ => False) rfl rfl HO.out HR1.out ?aK (fun _ h => h.elim) (fun _ _ => trivial) HB1.out HB1.out.size ?aL ?_; (case aK => exact fun _ _ h => h); (case aL => simp; omega); intro v2 w2 ho2 hb2 hg2 ha2; have HO2 := Aside0.mk ho2; have HB2 := Aside0.mk hb2; clear ho2 hb2 hg2 ha2))
    go_ret
    exact ⟨_, rfl, HO2.out, HB2.out⟩

set_option maxRecDepth 100000 in
set_option maxHeartbeats 400000 in
theorem clip_calls (n c : Nat) (A : Option Addr) (w : World) (hc : n ≤ c) :
    Calls Try.prog 68 #[.slice A n c] w fun e w' => e = .returned (.slice A n n) ∧ w = w' := by
  go_enter Try.func68, Try.ntmps68
  go_wp2
  go_ret
  exact ⟨rfl, rfl⟩

set_option maxRecDepth 100000 in
set_option maxHeartbeats 400000 in
theorem own_calls (xs : List Int) (len : Nat) (A : Option Addr) (c : Nat) (w : World) (hr : Kd.C (Kd.int .u8) w A len xs) (hl : xs.length ≤ 140737488355328) :
    Calls Try.prog 54 #[.slice A len c] w fun e w' => ∃ A', e = .returned (.slice A' xs.length xs.length) ∧ Kd.C (Kd.int .u8) w' A' xs.length xs ∧ Below w.heap.size w w' := by
  obtain rfl := hr.1
  go_enter Try.func54, Try.ntmps54
  go_wp2_with fail
  refine (clone_calls xs _ A c w hr hl).mono ?_
  rintro e w1 ⟨v, rfl, ho, hb⟩
  obtain ⟨A1, c1, rfl, hc1, hC1⟩ := Kd.R_reads ho
  have HB := Aside0.mk hb
  have HC := Aside0.mk hC1
  clear hb ho hC1
  go_wp2_with fail
  refine (clip_calls xs.length c1 A1 w1 hc1).mono ?_
  rintro e w2 ⟨rfl, rfl⟩
  go_wp2_with fail
  go_ret
  exact ⟨_, rfl, HC.out, HB.out⟩

set_option maxRecDepth 100000 in
set_option maxHeartbeats 800000 in
/-- 'number' behind bytes that have no room behind them: the answer is new. -/
theorem number_clip (xs : List Int) (A : Option Addr) (n : Nat) (w : World) (hr : Kd.C (Kd.int .u8) w A xs.length xs) (hn : n < 18446744073709551616) (hl : xs.length + 10 ≤ 140737488355328) :
    Calls Try.prog 53 #[.slice A xs.length xs.length, .int .u64 n] w fun e w' => ∃ v, e = .returned v ∧ Kd.R (Kd.int .u8) 5 w' w.heap.size (fun _ => True) v (xs ++ varint n) ∧ Below w.heap.size w w' := by
  have HR := Aside0.mk hr
  have hv := varint_le10 hn
  clear hr
  go_enter Try.func53, Try.ntmps53
  go_wp2
  go_loopw [0, 1] (fun v0 v1 w' => ∃ (m : Nat) (acc : List Int), v1 = .int .u64 m ∧ m < 18446744073709551616 ∧ Aside0 (acc ++ varint m = xs ++ varint n) ∧ Aside0 ((v0 = .slice A xs.length xs.length ∧ acc = xs ∧ w' = w) ∨ Kd.R (Kd.int .u8) 5 w' w.heap.size (fun _ => True) v0 acc) ∧ Aside0 (Below w.heap.size w w')) (fun _ v1 _ => (intOf v1).toNat)
  case atStart => exact ⟨n, xs, rfl, hn, ⟨rfl⟩, ⟨.inl ⟨rfl, rfl, rfl⟩⟩, ⟨Below.refl _ _⟩⟩
  case round =>
    obtain ⟨m, acc, rfl, hm, HE, HO, HB⟩ := hrel
    have hlen : acc.length + (varint m).length ≤ xs.length + 10 := by
      have := congrArg List.length HE.out
      simp only [List.length_append] at this
      omega
    by_cases hbig : 128 ≤ m
    · rw [varint_big hbig] at HE hlen
      have hq : m / 128 < m := by omega
      have h128 := or128 m
      have hdv : (m : Int) / 128 = ((m / 128 : Nat) : Int) := by omega
      generalize m / 128 = m2 at *
      generalize ((m % 128 + 128 : Nat) : Int) = b at *
      rw [List.length_cons] at hlen
      have HE2 := Aside0.mk ((List.append_assoc acc [b] (varint m2)).trans HE.out)
      clear HE
      rcases HO.out with ⟨rfl, rfl, rfl⟩ | ho
      · clear HO
        go_wp2_with (first
          | ((with_reducible refine gate_builtin (b := .append) (xs := #[.tmp 7, .tmp 11]) rfl ?_); at_builtin; refine append_clip (k := .u8) (w0 := wr) (W := wr) wr.heap.size rfl (.tmp 7) (.tmp 11) 43 5 1 rfl Try.underlying43 info5 acc A b rfl rfl HR.out HB.out (Nat.le_refl _) (by decide) (by omega) ?_; intro v2 w2 ho2 hb2 _; have HO2 := Aside0.mk ho2; have HB2 := Aside0.mk hb2; clear ho2 hb2))
        go_roundw
        case rel => exact ⟨m2, acc ++ [b], by go_num, by omega, HE2, ⟨.inr HO2.out⟩, HB2⟩
        case measure => simp [intOf]; omega
      · have HO1 := Aside0.mk ho
        clear HO ho
        go_wp2_with (first
          | ((with_reducible refine gate_builtin (b := .append) (xs := #[.tmp 7, .tmp 11]) rfl ?_); at_builtin; refine Kd.R_append (Kd.int .u8) (w0 := w) w.heap.size rfl (.tmp 7) (.tmp 11) 43 5 (.int .u8 0) 1 rfl Try.underlying43 info5 rfl (by decide) (by omega) _ acc b [.int .u8 b] (fun _ => True) (fun _ => False) rfl rfl rfl (fun _ hk => hk.elim) (fun _ _ => trivial) HO1.out HB.out HB.out.size (by omega) ?_; intro v2 w2 ho2 hb2 hg2 ha2; have HO2 := Aside0.mk ho2; have HB2 := Aside0.mk hb2; clear ho2 hb2 hg2 ha2))
        go_roundw
        case rel => exact ⟨m2, acc ++ [b], by go_num, by omega, HE2, ⟨.inr HO2.out⟩, HB2⟩
        case measure => simp [intOf]; omega
    · have hs := varint_small (show m < 128 by omega)
      rw [hs] at HE hlen
      rw [List.length_singleton] at hlen
      have hmod : (m : Int) % 256 = (m : Int) := by omega
      rcases HO.out with ⟨rfl, rfl, rfl⟩ | ho
      · clear HO
        go_wp2_with (first
          | ((with_reducible refine gate_builtin (b := .append) (xs := #[.tmp 15, .tmp 18]) rfl ?_); at_builtin; refine append_clip (k := .u8) (w0 := wr) (W := wr) wr.heap.size rfl (.tmp 15) (.tmp 18) 43 5 1 rfl Try.underlying43 info5 acc A m rfl rfl HR.out HB.out (Nat.le_refl _) (by decide) (by omega) ?_; intro v2 w2 ho2 hb2 _; have HO2 := Aside0.mk ho2; have HB2 := Aside0.mk hb2; clear ho2 hb2))
        go_ret
        exact ⟨_, rfl, by rw [← HE.out]; exact HO2.out, HB2.out⟩
      · have HO1 := Aside0.mk ho
        clear HO ho
        go_wp2_with (first
          | ((with_reducible refine gate_builtin (b := .append) (xs := #[.tmp 15, .tmp 18]) rfl ?_); at_builtin; refine Kd.R_append (Kd.int .u8) (w0 := w) w.heap.size rfl (.tmp 15) (.tmp 18) 43 5 (.int .u8 0) 1 rfl Try.underlying43 info5 rfl (by decide) (by omega) _ acc m [.int .u8 m] (fun _ => True) (fun _ => False) rfl rfl rfl (fun _ hk => hk.elim) (fun _ _ => trivial) HO1.out HB.out HB.out.size (by omega) ?_; intro v2 w2 ho2 hb2 hg2 ha2; have HO2 := Aside0.mk ho2; have HB2 := Aside0.mk hb2; clear ho2 hb2 hg2 ha2))
        go_ret
        exact ⟨_, rfl, by rw [← HE.out]; exact HO2.out, HB2.out⟩
end Go.Proofs.Ytomgfhapmhagnaa.Bas
