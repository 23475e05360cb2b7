/- slices.Equal at bytes: what it answers. -/
import Derived.Test.YtomgfhapmhagnaaBasA
namespace Go.Proofs.Ytomgfhapmhagnaa.Bas
set_option linter.unusedVariables false
set_option linter.unusedSimpArgs false
open Go.RowKit Go.Proofs.YtomgfhapmhagnaaW.PrintWords Go.Proofs.YtomgfhapmhagnaaW.PrintLast Go.Proofs.YtomgfhapmhagnaaW.PrintMore Go.Proofs.Ytomgfhapmhagnaa.Lib

set_option maxRecDepth 100000 in
set_option maxHeartbeats 400000 in
theorem equal_calls (xs ys : List Int) (A A2 : Option Addr) (c c2 : Nat) (w : World) (hr : Kd.C (Kd.int .u8) w A xs.length xs) (hr2 : Kd.C (Kd.int .u8) w A2 ys.length ys) :
    Calls Try.prog 42 #[.slice A xs.length c, .slice A2 ys.length c2] w fun e w' => e = .returned (.bool (decide (xs = ys))) ∧ Drawn0 w w' := by
  have HR := Aside0.mk hr
  have HR2 := Aside0.mk hr2
  have hm : xs.length ≤ 9223372036854775807 := hr.2.1
  clear hr hr2
  by_cases hlen : xs.length = ys.length
  · have c0 : ((xs.length : Int) != (ys.length : Int)) = false := by rw [hlen]; simp
    have hlen2 := Aside0.mk hlen
    go_enter Try.func42, Try.ntmps42
    clear hlen
    go_wp2
    go_loopw [13] (fun i w' => ∃ k : Nat, k ≤ xs.length ∧ i = .int .i64 k ∧ Aside0 (xs.take k = ys.take k) ∧ Drawn0 w w') (fun i _ => xs.length - (intOf i).toNat)
    case atStart => exact ⟨0, by omega, rfl, ⟨rfl⟩, Drawn0.refl _⟩
    case round =>
      obtain ⟨k, hk, rfl, HE, ⟨m1, rfl⟩⟩ := hrel
      by_cases hlt : k < xs.length
      · have hlt2 : k < ys.length := by have := hlen2.out; omega
        obtain ⟨ad, e, hcell⟩ := Kd.at_int HR.out k (by omega) (by omega)
        cases e
        obtain ⟨ad2, e, hcell2⟩ := Kd.at_int HR2.out k (by omega) (by omega)
        cases e
        simp only [Int.toNat_natCast, rd_nat] at hcell hcell2
        have hi1 : (k : Int) < (xs.length : Int) := by omega
        have hi2 : (k : Int) < (ys.length : Int) := by omega
        have hi0 : (0 : Int) ≤ (k : Int) := by omega
        have t1 := Aside0.mk (take_snoc xs k hlt)
        have t2 := Aside0.mk (take_snoc ys k hlt2)
        by_cases hb : xs.getD k 0 = ys.getD k 0
        · have hbb : (xs.getD k 0 != ys.getD k 0) = false := by rw [hb]; simp
          have t2b := Aside0.mk (show ys.take (k + 1) = ys.take k ++ [xs.getD k 0] by rw [hb]; exact t2.out)
          clear hb t2
          generalize xs.getD k 0 = bx at *
          generalize ys.getD k 0 = yb at *
          go_wp2
          go_quiet (fail)
          go_wp2
          go_roundw
          case rel => exact ⟨k + 1, by omega, by go_num, ⟨by rw [t1.out, t2b.out, HE.out]⟩, by repeat (first | exact Drawn0.refl _ | apply Drawn0.step)⟩
          case measure => simp [intOf]; omega
        · have hbb : (xs.getD k 0 != ys.getD k 0) = true := by rw [bne_iff_ne]; exact hb
          have hne := Aside0.mk (show decide (xs = ys) = false by
            apply decide_eq_false
            rintro rfl
            exact hb rfl)
          clear hb t1 t2
          generalize xs.getD k 0 = bx at *
          generalize ys.getD k 0 = yb at *
          go_wp2
          go_quiet (fail)
          go_wp2
          go_ret
          exact ⟨by rw [hne.out]; rfl, by repeat (first | exact Drawn0.refl _ | apply Drawn0.step)⟩
      · have : k = xs.length := by omega
        subst this
        have hne := Aside0.mk (show decide (xs = ys) = true by
          apply decide_eq_true
          have h := HE.out
          rw [List.take_length, hlen2.out, List.take_length] at h
          exact h)
        clear HE
        go_wp2
        go_ret
        exact ⟨by rw [hne.out]; rfl, by repeat (first | exact Drawn0.refl _ | apply Drawn0.step)⟩
  · have c0 : ((xs.length : Int) != (ys.length : Int)) = true := by rw [bne_iff_ne]; omega
    have hne := Aside0.mk (show decide (xs = ys) = false by
      apply decide_eq_false
      rintro rfl
      exact hlen rfl)
    clear hlen
    go_enter Try.func42, Try.ntmps42
    go_wp2
    go_ret
    exact ⟨by rw [hne.out]; rfl, Drawn0.refl _⟩

theorem equal_calls' (xs ys : List Int) (n n2 : Nat) (A A2 : Option Addr) (c c2 : Nat) (w : World) (hr : Kd.C (Kd.int .u8) w A n xs) (hr2 : Kd.C (Kd.int .u8) w A2 n2 ys) :
    Calls Try.prog 42 #[.slice A n c, .slice A2 n2 c2] w fun e w' => e = .returned (.bool (decide (xs = ys))) ∧ Drawn0 w w' := by
  obtain rfl := hr.1
  obtain rfl := hr2.1
  exact equal_calls xs ys A A2 c c2 w hr hr2
end Go.Proofs.Ytomgfhapmhagnaa.Bas
