/- slices.Compact of a row of one's own; is a text too long: what they answer. -/
import Derived.Test.YtmjhgeinhhhodaaStrSort
namespace Go.Proofs.Ytmjhgeinhhhodaa.P
set_option linter.unusedVariables false
set_option linter.unusedSimpArgs false
open Go.RowKit Go.Proofs.YtmjhgeinhhhodaaW.PrintWords Go.Proofs.YtmjhgeinhhhodaaW.PrintLast Go.Proofs.YtmjhgeinhhhodaaW.PrintMore Go.Proofs.Ytmjhgeinhhhodaa.Lib

def slices_Compact_string_string.f (l0 : List ByteArray) : Option (List ByteArray) := if l0.length ≤ 8796093022208 then some (compactB l0) else none
theorem slices_Compact_string_string.calls (P0_ : Nat → Prop) (u9000_ : Value) (l0 : List ByteArray) (r : List ByteArray) (w0 w : World) (hB : Below w0.heap.size w0 w) (ho0 : Kd.R Kd.string 9 w w0.heap.size P0_ u9000_ l0) (h : slices_Compact_string_string.f l0 = some r) :
    Calls Try.prog 31 #[u9000_] w fun e w' => ∃ v0_ : Value, e = .returned (v0_) ∧ Kd.R Kd.string 9 w' w0.heap.size (fun k_ => (P0_ k_ ∨ w.heap.size ≤ k_)) v0_ r ∧ Below w0.heap.size w0 w' ∧ Kept w w' (fun k_ => P0_ k_) := by
  unfold slices_Compact_string_string.f at h
  split at h
  · injection h with h
    subst h
    obtain ⟨A, c, rfl, hc, -⟩ := Kd.R_reads ho0
    refine (compact_strings l0 w w0.heap.size P0_ A l0.length c ho0 (by omega)).mono ?_
    rintro e w' ⟨v, rfl, ho, rfl, hg⟩
    refine ⟨_, rfl, Kd.R_mono ho (fun k hk => .inl hk), pw_below_grown hB _ hB.size hg (fun k hk => Kd.R_base ho0 k hk), ?_⟩
    exact ⟨hg.size, fun i hi hn => hg.block i hi (fun e => hn (ho0.1 i e.symm))⟩
  · cases h

set_option maxRecDepth 100000 in
set_option maxHeartbeats 400000 in
theorem long_word (s : ByteArray) (w : World) :
    Calls Try.prog 38 #[.string s] w fun e w' => e = .returned (.bool (decide (64 < s.size))) ∧ w = w' := by
  by_cases h : 64 < s.size
  · have h2 : decide (64 < s.size) = true := decide_eq_true h
    rw [h2]
    have h3 : decide ((64 : Int) < (s.size : Int)) = true := decide_eq_true (by omega)
    clear h h2
    go_enter Try.func38, Try.ntmps38
    go_wp2_with fail
    go_ret
    exact ⟨rfl, rfl⟩
  · have h2 : decide (64 < s.size) = false := decide_eq_false h
    rw [h2]
    have h3 : decide ((64 : Int) < (s.size : Int)) = false := decide_eq_false (by omega)
    clear h h2
    go_enter Try.func38, Try.ntmps38
    go_wp2_with fail
    go_ret
    exact ⟨rfl, rfl⟩
def tooLong (ts : List ByteArray) : Bool := ts.any fun t => decide (64 < t.size)
set_option maxRecDepth 100000 in
set_option maxHeartbeats 400000 in
theorem index_long (ts : List ByteArray) (A : Option Addr) (n c : Nat) (w : World) (hC : Kd.C Kd.string w A n ts) :
    Calls Try.prog 46 #[.slice A n c, .func (.func 38) #[] #[]] w fun e w' => (∃ k : Int, e = .returned (.int .i64 k) ∧ decide (0 ≤ k) = tooLong ts) ∧ w = w' := by
  have HC := Aside0.mk hC
  have HLen := Aside0.mk (show ts.length = n from hC.1)
  have hn := hC.2.1
  clear hC
  go_enter Try.func46, Try.ntmps46
  go_wp2_with fail
  go_loop [8] (fun kv => ∃ k : Nat, k ≤ n ∧ kv = .int .i64 k ∧ Aside0 (tooLong (ts.take k) = false)) (fun kv => n - (intOf kv).toNat)
  case atStart => exact ⟨0, Nat.zero_le _, rfl, ⟨by simp [tooLong]⟩⟩
  case round =>
    obtain ⟨k, hk, rfl, HT⟩ := hrel
    by_cases hlt : k < n
    · obtain ⟨ad, e, hcell⟩ := Kd.at_string HC.out (k : Int) (by omega) (by omega)
      subst e
      rw [Int.toNat_natCast] at hcell
      have HL := Aside0.mk (show tooLong (ts.take (k + 1)) = decide (64 < (rdOf ByteArray.empty ts (k : Int)).size) by
        rw [List.take_succ_eq_append_getElem (by rw [HLen.out]; exact hlt)]
        have h := HT.out
        unfold tooLong at h ⊢
        rw [List.any_append, h]
        unfold rdOf
        rw [Int.toNat_natCast, List.getD_eq_getElem?_getD, List.getElem?_eq_getElem (by rw [HLen.out]; exact hlt)]
        simp)
      have HA := Aside0.mk (show tooLong (ts.take (k + 1)) = true → tooLong ts = true by
        unfold tooLong
        intro h
        rw [List.any_eq_true] at h ⊢
        obtain ⟨x, hx, h⟩ := h
        exact ⟨x, List.mem_of_mem_take hx, h⟩)
      generalize rdOf ByteArray.empty ts (k : Int) = s at *
      go_wp2_with fail
      refine (long_word s w).mono ?_
      rintro e w1 ⟨rfl, rfl⟩
      rw [← HL.out]
      obtain ⟨b, hb⟩ : ∃ b, tooLong (ts.take (k + 1)) = b := ⟨_, rfl⟩
      rw [hb] at HL HA ⊢
      have HT2 := Aside0.mk hb
      clear hb HT
      cases b
      · go_wp2_with fail
        go_round
        case rel => exact ⟨k + 1, by omega, by go_num, HT2⟩
        case measure => simp [intOf]; omega
      · go_wp2_with fail
        go_ret
        exact ⟨⟨(k : Int), rfl, by rw [HA.out (by trivial)]; exact decide_eq_true (by omega)⟩, rfl⟩
    · obtain rfl : k = n := by omega
      have HE := Aside0.mk (show tooLong ts = false by have h := HT.out; rw [← HLen.out, List.take_length] at h; exact h)
      go_wp2_with fail
      go_ret
      exact ⟨⟨-1, rfl, by rw [HE.out]; rfl⟩, rfl⟩
def slices_ContainsFunc_string_string_at_agg_May_1.f (l0 : List ByteArray) : Option Bool := some (tooLong l0)
set_option maxRecDepth 100000 in
set_option maxHeartbeats 400000 in
theorem slices_ContainsFunc_string_string_at_agg_May_1.calls (A0 : Option Addr) (c0 : Nat) (l0 : List ByteArray) (r : Bool) (w : World) (hr0 : Kd.C Kd.string w A0 l0.length l0) (hc0 : l0.length ≤ c0) (h : slices_ContainsFunc_string_string_at_agg_May_1.f l0 = some r) :
    Calls Try.prog 37 #[.slice A0 l0.length c0, .func (.func 38) #[] #[]] w fun e w' => e = .returned (.bool r) ∧ Drawn0 w w' := by
  unfold slices_ContainsFunc_string_string_at_agg_May_1.f at h
  injection h with h
  have HH := Aside0.mk h
  have H := Aside0.mk (index_long l0 A0 l0.length c0 w hr0)
  clear hr0 h hc0
  go_enter Try.func37, Try.ntmps37
  go_wp2_with fail
  refine H.out.mono ?_
  rintro e w1 ⟨⟨k, rfl, hk⟩, rfl⟩
  have HK := Aside0.mk hk
  clear hk
  go_wp2_with fail
  go_ret
  exact ⟨by rw [← HH.out, ← HK.out]; rfl, Drawn0.refl _⟩
end Go.Proofs.Ytmjhgeinhhhodaa.P
