/- The reader's other methods. -/
import Derived.Test.YtomgfhapmhagnaaReader
namespace Go.Proofs.Ytomgfhapmhagnaa.Reader
set_option linter.unusedVariables false
set_option linter.unusedSimpArgs false
open Go.RowKit Go.Proofs.YtomgfhapmhagnaaW.PrintWords Go.Proofs.YtomgfhapmhagnaaW.PrintLast Go.Proofs.YtomgfhapmhagnaaW.PrintMore Go.Proofs.Ytomgfhapmhagnaa.Lib Go.Proofs.Ytomgfhapmhagnaa.Read

set_option maxRecDepth 100000 in
set_option maxHeartbeats 400000 in
theorem count_calls (w0 w : World) (g : Nat) (s : St) (least : Int) (h : Rd w0 w g s) (hl0 : -9223372036854775808 ≤ least) (hl1 : least < 9223372036854775808) :
    Calls Try.prog 38 #[.pointer (some ⟨g, 0, none⟩), .int .i64 least] w fun x w' => x = .returned (.int .i64 (rdC least s).1) ∧ Rd w0 w' g (rdC least s).2 ∧ KeepBut w w' g none := by
  have hlt := rdU_lt s h.ok
  go_enter Try.func38, Try.ntmps38
  go_wp2_with fail
  refine (uint_calls w0 w g s h).mono ?_
  rintro x w1 ⟨rfl, hr, hk⟩
  have HR := Aside0.mk hr
  have HK := Aside0.mk hk
  have hbad := rdU_bad s
  have HE := Aside0.mk (show rdC least s = if (rdU s).2.2 = 0 ∧ (rdU s).2.1.length / (max least 1).toNat < (rdU s).1 then (0, ([], 10)) else (((rdU s).1 : Int), (rdU s).2) from rfl)
  obtain ⟨A, n, c, c0, c1, f0, f1, hC, hc, hn, hC0⟩ := HR.out.cells
  have hm : n ≤ 9223372036854775807 := hC.2.1
  clear hr hk h hC hC0
  generalize (rdU s).1 = v at *
  generalize (rdU s).2 = t at *
  by_cases hz : t.2 = 0
  · obtain ⟨l, tb⟩ := t
    obtain rfl : tb = 0 := hz
    replace c1 : w1.cell? ⟨g, 1, none⟩ = some (.int .i64 0) := c1
    have HN := Aside0.mk (show n = l.length from hn)
    have hlv := hbad
    clear hn hbad hlv
    obtain ⟨d, hd, hd1, hd2⟩ : ∃ d : Nat, (if least < 1 then (1 : Int) else least) = (d : Int) ∧ 1 ≤ d ∧ (max least 1).toNat = d := by
      by_cases h1 : least < 1
      · exact ⟨1, by rw [if_pos h1]; rfl, by omega, by omega⟩
      · exact ⟨least.toNat, by rw [if_neg h1]; omega, by omega, by omega⟩
    rw [hd2, ← HN.out] at HE
    have hq : ((n : Int) / (d : Int)) = ((n / d : Nat) : Int) := by simp
    have hqn : n / d ≤ n := Nat.div_le_self _ _
    have hd0 : ((d : Int) == 0) = false := beq_no (by omega)
    have hd3 : ¬ ((d : Int) = 0) := by omega
    clear hd2
    generalize n / d = q at *
    by_cases hlt2 : q < v
    · rw [if_pos ⟨rfl, hlt2⟩] at HE
      go_wp2_with fail
      refine (fail_calls w0 w1 g (l, 0) 10 HR.out (by decide)).mono ?_
      rintro x w2 ⟨rfl, hr, hk⟩
      have HR2 := Aside0.mk hr
      have HK2 := Aside0.mk (HK.out.trans hk (.inl rfl))
      clear hr hk
      go_wp2_with fail
      go_ret
      exact ⟨by rw [HE.out]; rfl, by rw [HE.out]; exact HR2.out, HK2.out⟩
    · rw [if_neg (fun h => hlt2 h.2)] at HE
      go_wp2_with fail
      go_ret
      exact ⟨by rw [HE.out]; rfl, by rw [HE.out]; exact HR.out, HK.out⟩
  · have hv := hbad hz
    subst hv
    have hz1 : (t.2 == 0) = false := beq_no hz
    rw [if_neg (by omega)] at HE
    clear hbad hz hn
    go_wp2_with fail
    go_ret
    exact ⟨by rw [HE.out]; rfl, by rw [HE.out]; exact HR.out, HK.out⟩

set_option maxRecDepth 100000 in
set_option maxHeartbeats 400000 in
theorem end_calls (w0 w : World) (g : Nat) (s : St) (h : Rd w0 w g s) :
    Calls Try.prog 41 #[.pointer (some ⟨g, 0, none⟩)] w fun x w' => x = .returned (.int .i64 (rdEnd s)) ∧ w = w' := by
  obtain ⟨A, n, c, c0, c1, f0, f1, hC, hc, hn, hC0⟩ := h.cells
  have HE := Aside0.mk (show rdEnd s = if s.2 = 0 ∧ 0 < s.1.length then 12 else s.2 from rfl)
  rw [← hn] at HE
  generalize s.2 = bad at *
  clear h hC hC0 hn
  by_cases hz : bad = 0
  · subst hz
    by_cases h0 : 0 < n
    · rw [if_pos ⟨rfl, h0⟩] at HE
      go_enter Try.func41, Try.ntmps41
      go_wp2
      go_ret
      exact ⟨by rw [HE.out]; rfl, rfl⟩
    · rw [if_neg (by omega)] at HE
      go_enter Try.func41, Try.ntmps41
      go_wp2
      go_ret
      exact ⟨by rw [HE.out]; rfl, rfl⟩
  · have hz1 : (bad == 0) = false := beq_no hz
    rw [if_neg (by omega)] at HE
    clear hz
    go_enter Try.func41, Try.ntmps41
    go_wp2
    go_ret
    exact ⟨by rw [HE.out]; rfl, rfl⟩

set_option maxRecDepth 100000 in
set_option maxHeartbeats 400000 in
theorem text_calls (w0 w : World) (g : Nat) (s : St) (h : Rd w0 w g s) :
    Calls Try.prog 40 #[.pointer (some ⟨g, 0, none⟩)] w fun x w' => x = .returned (.string (strOfNums (rdT s).1)) ∧ Rd w0 w' g (rdT s).2 ∧ KeepBut w w' g none := by
  have hle := rdC_le s h.ok
  have HT := Aside0.mk (show rdT s = ((rdC 1 s).2.1.take (rdC 1 s).1.toNat, ((rdC 1 s).2.1.drop (rdC 1 s).1.toNat, (rdC 1 s).2.2)) from rfl)
  go_enter Try.func40, Try.ntmps40
  go_wp2_with fail
  refine (count_calls w0 w g s 1 h (by decide) (by decide)).mono ?_
  rintro x w1 ⟨rfl, hr, hk⟩
  have HR := Aside0.mk hr
  have HK := Aside0.mk hk
  obtain ⟨A, n, c, c0, c1, f0, f1, hC, hc, hn, hC0⟩ := HR.out.cells
  have hm : n ≤ 9223372036854775807 := hC.2.1
  clear hr hk h
  generalize (rdC 1 s).1 = kk at *
  generalize (rdC 1 s).2 = t at *
  obtain ⟨k, rfl⟩ := Int.eq_ofNat_of_zero_le hle.1
  have hkn : k ≤ n := by rw [hn]; simpa using hle.2
  rw [Int.toNat_natCast] at HT
  clear hle
  by_cases hz : k = 0
  · subst hz
    rw [List.take_zero, List.drop_zero] at HT
    have HE := Aside0.mk (show strOfNums [] = ⟨#[]⟩ from rfl)
    clear hC hC0 hn
    go_wp2_with fail
    go_ret
    exact ⟨by rw [HT.out]; simp only [HE.out]; rfl, by rw [HT.out]; exact HR.out, HK.out⟩
  · have hz1 : ((k : Int) == 0) = false := beq_no (by omega)
    obtain ⟨b, o, rfl⟩ := C_plain' hC (by omega)
    have hs := fun cc : Nat => Kd.C_string Try.underlying43 Try.underlying5 Try.underlying9 (c := cc) (show Kd.C (Kd.int .u8) w1 (some ⟨b, o, none⟩) k (t.1.take k) by
      have hC' : Kd.C (Kd.int .u8) w1 (some ⟨b, o, none⟩) t.1.length t.1 := by rw [← hn]; exact hC
      have h1 := Kd.C_take hC' (show k ≤ t.1.length by omega)
      rw [List.length_take, Nat.min_eq_left (by omega)] at h1
      exact h1)
    have HN := Aside0.mk hn
    have hok : Ok (t.1.drop k, t.2) := ⟨HR.out.ok.1.drop _, fun h => by show t.1.drop k = []; rw [HR.out.ok.2 h]; exact List.drop_nil⟩
    by_cases hck : c = k
    · have HQ := Aside0.mk (HR.out.set0 (l := t.1.drop k) (A := some ⟨b, o, none⟩) (n := 0) (c := 0) (by
        have e : t.1.drop k = [] := List.drop_eq_nil_of_le (by omega)
        rw [e]; exact ⟨rfl, by decide, fun h => by omega⟩) (Nat.le_refl _) hok)
      have HKQ := Aside0.mk (KeepBut.set_ HK.out 0 (.slice (some ⟨b, o, none⟩) 0 0))
      have hnk : n = k := by omega
      clear hC hC0 hn hok
      subst hck
      subst hnk
      go_wp2_with fail
      go_ret
      exact ⟨by rw [HT.out]; rfl, by rw [HT.out]; exact HQ.out, HKQ.out⟩
    · have HQ := Aside0.mk (HR.out.set0 (l := t.1.drop k) (A := some ⟨b, o + k, none⟩) (n := n - k) (c := c - k) (by
        have h1 := C_drop_at (xs := t.1) (lo := k) (by rw [← hn]; exact hC0) (by omega) (show t.1.length ≤ c by omega) hck
        rw [List.length_drop, ← hn] at h1
        exact h1) (by omega) hok)
      have HKQ := Aside0.mk (KeepBut.set_ HK.out 0 (.slice (some ⟨b, o + k, none⟩) (n - k) (c - k)))
      clear hC hC0 hn hok
      go_wp2_with fail
      go_ret
      exact ⟨by rw [HT.out]; rfl, by rw [HT.out]; exact HQ.out, HKQ.out⟩

end Go.Proofs.Ytomgfhapmhagnaa.Reader
