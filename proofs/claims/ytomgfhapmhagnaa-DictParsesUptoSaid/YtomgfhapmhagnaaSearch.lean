/- sort.Search with a function value: what it answers. -/
import Derived.Test.YtomgfhapmhagnaaTextA
namespace Go.Proofs.Ytomgfhapmhagnaa.Txt
set_option linter.unusedVariables false
set_option linter.unusedSimpArgs false
open Go.RowKit Go.Proofs.YtomgfhapmhagnaaW.PrintWords Go.Proofs.YtomgfhapmhagnaaW.PrintLast Go.Proofs.YtomgfhapmhagnaaW.PrintMore Go.Proofs.Ytomgfhapmhagnaa.Lib

set_option maxRecDepth 100000 in
set_option maxHeartbeats 800000 in
theorem search_calls (n : Nat) (w : World) (fn : Nat) (fd : Func) (cap : Array Value) (hf : Try.prog.funcs[fn]? = some fd) (hname : (fd.name == "runtime.NumGoroutine") = false) (hbody : fd.body.isSome = true) (hn : n ≤ 4611686018427387904)
    (p : Nat → Bool) (hword : ∀ (i : Nat) (w' : World), i < n → Below w.heap.size w w' → Calls Try.prog fn (#[] ++ #[.int .i64 i] ++ cap) w' fun e w'' => e = .returned (.bool (p i)) ∧ Drawn0 w' w'') (hm : ∀ i j, i ≤ j → j < n → p i = true → p j = true) :
    Calls Try.prog 30 #[.int .i64 n, .func (.func fn) #[] cap] w fun e w' => ∃ k : Nat, e = .returned (.int .i64 k) ∧ k ≤ n ∧ (∀ i, i < k → p i = false) ∧ (k < n → p k = true) ∧ Drawn0 w w' := by
  have HF := Aside0.mk hf
  have HNm := Aside0.mk hname
  have HBd := Aside0.mk hbody
  have HW := Aside0.mk hword
  have HM := Aside0.mk hm
  clear hf hname hbody hword hm
  go_enter Try.func30, Try.ntmps30
  go_wp2_with fail
  go_loopw [5, 6] (fun iv jv w' => ∃ i j : Nat, i ≤ j ∧ j ≤ n ∧ iv = .int .i64 i ∧ jv = .int .i64 j ∧ Aside0 (∀ q, q < i → p q = false) ∧ Aside0 (j < n → p j = true) ∧ Drawn0 w w') (fun iv jv _ => (intOf jv).toNat - (intOf iv).toNat)
  case atStart => exact ⟨0, n, Nat.zero_le _, Nat.le_refl _, rfl, rfl, ⟨fun q h => by omega⟩, ⟨fun h => by omega⟩, Drawn0.refl _⟩
  case round =>
    obtain ⟨i, j, hij, hjn, rfl, rfl, HI, HJ, HD⟩ := hrel
    by_cases hlt : i < j
    · obtain ⟨h, hh⟩ : ∃ h, h = (i + j) / 2 := ⟨_, rfl⟩
      have hhi : ((i : Int) + (j : Int)) / 2 = (h : Int) := by omega
      have hwu : IntKind.u64.wrap ((i : Int) + (j : Int)) = (i : Int) + (j : Int) := wraps_u64 _ (by omega) (by omega)
      have hwh : wrap64 (h : Int) = (h : Int) := IntWalk.wrap64_in _ (by omega)
      have h1 : i ≤ h := by omega
      have h2 : h < j := by omega
      have HC := Aside0.mk (HW.out h wr (by omega) HD.below)
      have HDr := Aside0.mk HD
      clear hh HD
      obtain ⟨b, hb⟩ : ∃ b, p h = b := ⟨_, rfl⟩
      have HPb := Aside0.mk hb
      rw [hb] at HC
      clear hb
      go_wp2_with (first
        | ((with_reducible refine gate_dst (N := 20) rfl ?_); refine goesLv_ (some 20) rfl rfl HF.out HNm.out HBd.out #[.int .i64 h] rfl rfl (by simp only [List.map_toArray, List.map_cons, List.map_nil]; rfl) ?_; with_reducible refine HC.out.mono ?_; rintro e w3 ⟨rfl, hd⟩; refine ⟨_, rfl, ?_⟩; have HD3 : Aside0 (Drawn0 w w3) := ⟨by obtain ⟨x, hx⟩ := HDr.out.out; obtain ⟨y, hy⟩ := hd.out; subst hx; subst hy; exact (HDr.out.step y)⟩; clear hd; cases b)
        | fail)
      · go_roundw
        case rel => exact ⟨h + 1, j, by omega, hjn, by go_num, rfl, ⟨fun q hq => by
          cases hp : p q with
          | false => rfl
          | true => exact absurd (HM.out q h (by omega) (by omega) hp) (by rw [HPb.out]; simp)⟩, HJ, HD3.out⟩
        case measure => simp [intOf]; omega
      · go_roundw
        case rel => exact ⟨i, h, by omega, by omega, rfl, rfl, HI, ⟨fun _ => HPb.out⟩, HD3.out⟩
        case measure => simp [intOf]; omega
    · obtain rfl : i = j := by omega
      have HDr := Aside0.mk HD
      clear HD
      go_wp2_with fail
      go_ret
      exact ⟨i, rfl, hjn, HI.out, HJ.out, HDr.out⟩
end Go.Proofs.Ytomgfhapmhagnaa.Txt
