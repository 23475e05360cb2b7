/- The reference's From, begins, Begin: what they answer. -/
import Derived.Test.YtomgfhapmhagnaaDict2
namespace Go.Proofs.Ytomgfhapmhagnaa.Txt
set_option linter.unusedVariables false
set_option linter.unusedSimpArgs false
open Go.RowKit Go.Proofs.YtomgfhapmhagnaaW.PrintWords Go.Proofs.YtomgfhapmhagnaaW.PrintLast Go.Proofs.YtomgfhapmhagnaaW.PrintMore Go.Proofs.Ytomgfhapmhagnaa.Lib

set_option maxRecDepth 100000 in
set_option maxHeartbeats 400000 in
theorem reffrom_calls (l : List T) (A : Option Addr) (n c : Nat) (s : ByteArray) (w : World) (hC : text.C w A n l) :
    Calls Try.prog 27 #[.slice A n c, .string s] w fun e w' => e = .returned (.int .i64 (fromOf l s.data.toList : Nat)) ∧ w = w' := by
  have HC := Aside0.mk hC
  have HN := Aside0.mk (show l.length = n from hC.1)
  have hn := hC.2.1
  have HI := Aside0.mk (fromOf_is l s.data.toList)
  clear hC
  obtain ⟨r, hr⟩ : ∃ r, fromOf l s.data.toList = r := ⟨_, rfl⟩
  rw [hr] at HI ⊢
  clear hr
  go_enter Try.func27, Try.ntmps27
  go_wp2_with fail
  go_loop [5] (fun kv => ∃ k : Nat, k ≤ n ∧ kv = .int .i64 k ∧ Aside0 (∀ i, i < k → l.getD i [] < s.data.toList)) (fun kv => n - (intOf kv).toNat)
  case atStart => exact ⟨0, Nat.zero_le _, rfl, ⟨fun i hi => by omega⟩⟩
  case round =>
    obtain ⟨k, hk, rfl, HE⟩ := hrel
    by_cases hlt : k < n
    · obtain ⟨ad, e, hcell⟩ := at_text HC.out k hlt
      subst e
      have hki : (k : Int) < (n : Int) := by omega
      by_cases hx : l.getD k [] < s.data.toList
      · have hq : Op.bytesLess (bs (l.getD k [])).toList s.toList = true := by rw [less_is, bs_data]; exact decide_eq_true hx
        have HE2 := Aside0.mk (show ∀ i, i < k + 1 → l.getD i [] < s.data.toList by
          intro i hi
          rcases Nat.lt_succ_iff_lt_or_eq.1 hi with h | rfl
          · exact HE.out i h
          · exact hx)
        clear hx HE
        generalize bs (l.getD k []) = t at *
        go_wp2_with fail
        go_round
        case rel => exact ⟨k + 1, by omega, by go_num, HE2⟩
        case measure => simp [intOf]; omega
      · have hq : Op.bytesLess (bs (l.getD k [])).toList s.toList = false := by rw [less_is, bs_data]; exact decide_eq_false hx
        have HX := Aside0.mk (HI.out k (by rw [HN.out]; exact hk) HE.out (fun _ => hx))
        clear hx HE
        generalize bs (l.getD k []) = t at *
        go_wp2_with fail
        go_ret
        exact ⟨by rw [← HX.out]; rfl, rfl⟩
    · obtain rfl : k = n := by omega
      have HX := Aside0.mk (HI.out k (by rw [HN.out]; exact hk) HE.out (fun h => absurd h (by rw [HN.out]; omega)))
      go_wp2_with fail
      go_ret
      exact ⟨by rw [← HX.out]; rfl, rfl⟩

theorem cut_begins (s p : ByteArray) (h : p.size ≤ s.size) : ((s.extract 0 p.size).toList == p.toList) = begins s.data.toList p.data.toList := by
  rw [begins_take, Bool.eq_iff_iff, beq_iff_eq, decide_eq_true_iff, ByteArray.toList_eq, ByteArray.toList_eq, ByteArray.data_extract, Array.toList_extract, List.extract_eq_take_drop]
  have h1 : p.data.toList.length = p.size := rfl
  have h2 : s.data.toList.length = s.size := rfl
  rw [h1, h2, Nat.sub_zero, List.drop_zero]
  exact ⟨fun h3 => ⟨h, h3⟩, fun h3 => h3.2⟩
theorem off_begins (s p : ByteArray) (h : s.size < p.size) : begins s.data.toList p.data.toList = false := by
  rw [begins_take, decide_eq_false_iff_not]
  have h1 : p.data.toList.length = p.size := rfl
  have h2 : s.data.toList.length = s.size := rfl
  rw [h1, h2]
  omega
set_option maxRecDepth 100000 in
set_option maxHeartbeats 400000 in
theorem refbegins_calls (s p : ByteArray) (w : World) :
    Calls Try.prog 51 #[.string s, .string p] w fun e w' => e = .returned (.bool (begins s.data.toList p.data.toList)) ∧ w = w' := by
  by_cases h : p.size ≤ s.size
  · have hq := cut_begins s p h
    generalize begins s.data.toList p.data.toList = b at *
    go_enter Try.func51, Try.ntmps51
    go_wp2_with fail
    go_ret
    exact ⟨rfl, rfl⟩
  · have h2 : s.size < p.size := by omega
    rw [off_begins s p h2]
    clear h
    go_enter Try.func51, Try.ntmps51
    go_wp2_with fail
    go_ret
    exact ⟨rfl, rfl⟩

set_option maxRecDepth 100000 in
set_option maxHeartbeats 400000 in
theorem refbegin_calls (l : List T) (A : Option Addr) (n c : Nat) (p : ByteArray) (w : World) (hC : text.C w A n l) (hn4 : n ≤ 4611686018427387904) :
    Calls Try.prog 29 #[.slice A n c, .string p] w fun e w' => e = .returned (.tuple #[.int .i64 (fromOf l p.data.toList : Nat), .int .i64 (fromOf l p.data.toList + runOf l p.data.toList : Nat)]) ∧ w = w' := by
  have HC := Aside0.mk hC
  have HN := Aside0.mk (show l.length = n from hC.1)
  have HF := Aside0.mk (reffrom_calls l A n c p w hC)
  have HI := Aside0.mk (run_is l p.data.toList)
  have hfl := fromOf_le l p.data.toList
  rw [HN.out] at hfl
  clear hC
  generalize runOf l p.data.toList = r at *
  generalize fromOf l p.data.toList = lo at *
  go_enter Try.func29, Try.ntmps29
  go_wp2_with fail
  refine HF.out.mono ?_
  rintro e w1 ⟨rfl, rfl⟩
  go_wp2_with fail
  go_loopw [7] (fun kv w' => ∃ k : Nat, lo + k ≤ n ∧ kv = .int .i64 ((lo + k : Nat) : Int) ∧ Aside0 (∀ i, i < k → begins (l.getD (lo + i) []) p.data.toList = true) ∧ w = w') (fun kv _ => n - (intOf kv).toNat)
  case atStart => exact ⟨0, hfl, rfl, ⟨fun i hi => by omega⟩, (by first | trivial | rfl)⟩
  case round =>
    obtain ⟨k, hk, rfl, HE, rfl⟩ := hrel
    obtain ⟨j, hj⟩ : ∃ j, lo + k = j := ⟨_, rfl⟩
    have HJ := Aside0.mk hj
    rw [hj] at hk ⊢
    clear hj
    by_cases hlt : j < n
    · obtain ⟨ad, e, hcell⟩ := at_text HC.out j hlt
      subst e
      have hki : (j : Int) < (n : Int) := by omega
      have HB := Aside0.mk (refbegins_calls (bs (l.getD j [])) p w)
      rw [bs_data] at HB
      generalize hbt : bs (l.getD j []) = t at *
      clear hbt
      cases hx : begins (l.getD j []) p.data.toList
      case true =>
        rw [hx] at HB
        have HE2 := Aside0.mk (show ∀ i, i < k + 1 → begins (l.getD (lo + i) []) p.data.toList = true by
          intro i hi
          rcases Nat.lt_succ_iff_lt_or_eq.1 hi with h | rfl
          · exact HE.out i h
          · rw [HJ.out]; exact hx)
        clear hx HE
        go_wp2_with fail
        refine HB.out.mono ?_
        rintro e w1 ⟨rfl, rfl⟩
        go_wp2_with fail
        go_roundw
        case rel => exact ⟨k + 1, by have := HJ.out; omega, by have := HJ.out; rw [show lo + (k + 1) = j + 1 by omega]; go_num, HE2, (by first | trivial | rfl)⟩
        case measure => simp [intOf]; omega
      case false =>
        rw [hx] at HB
        have HX := Aside0.mk (HI.out k (by rw [HN.out, HJ.out]; exact hk) HE.out (fun _ => by rw [HJ.out]; exact hx))
        clear hx HE
        go_wp2_with fail
        refine HB.out.mono ?_
        rintro e w1 ⟨rfl, rfl⟩
        go_wp2_with fail
        go_ret2
        exact ⟨by rw [← HX.out, HJ.out]; rfl, rfl⟩
    · obtain rfl : j = n := by omega
      have HX := Aside0.mk (HI.out k (by rw [HN.out, HJ.out]; exact hk) HE.out (fun h => absurd h (by rw [HN.out, HJ.out]; omega)))
      go_wp2_with fail
      go_ret2
      exact ⟨by rw [← HX.out, HJ.out]; rfl, rfl⟩
end Go.Proofs.Ytomgfhapmhagnaa.Txt
