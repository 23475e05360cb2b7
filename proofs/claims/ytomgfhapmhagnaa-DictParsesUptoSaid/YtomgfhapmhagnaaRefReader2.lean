/- The reference's reader, the other methods. -/
import Derived.Test.YtomgfhapmhagnaaRefReader
import Derived.Test.YtomgfhapmhagnaaBasA
namespace Go.Proofs.Ytomgfhapmhagnaa.RefReader
set_option linter.unusedVariables false
set_option linter.unusedSimpArgs false
open Go.RowKit Go.Proofs.YtomgfhapmhagnaaW.PrintWords Go.Proofs.YtomgfhapmhagnaaW.PrintLast Go.Proofs.YtomgfhapmhagnaaW.PrintMore Go.Proofs.Ytomgfhapmhagnaa.Lib Go.Proofs.Ytomgfhapmhagnaa.Read
open Go.Proofs.Ytomgfhapmhagnaa.Bas (info5)

section
variable {w0 w w' : World} {g : Nat} {s : St}
theorem RS.keep (h : RS w0 w g s) (hb : Below w0.heap.size w0 w') (hg : w'.heap[g]? = w.heap[g]?) : RS w0 w' g s := by
  obtain ⟨xs, a, bad, h, e⟩ := h
  exact ⟨xs, a, bad, h.keep hb hg, e⟩
theorem RS.drewN (h : RS w0 w g s) (m : Nat) : RS w0 (w.drewN m) g s := by
  obtain ⟨xs, a, bad, h, e⟩ := h
  exact ⟨xs, a, bad, h.drewN m, e⟩
theorem RS.lt (h : RS w0 w g s) : g < w.heap.size := by
  obtain ⟨xs, a, bad, ⟨_, _, A, n, c, h, _⟩, e⟩ := h
  exact blk_lt h
theorem RS.below (h : RS w0 w g s) : Below w0.heap.size w0 w := by
  obtain ⟨xs, a, bad, h, e⟩ := h
  exact h.below
end

set_option maxRecDepth 100000 in
set_option maxHeartbeats 400000 in
theorem left_calls (w0 w : World) (g : Nat) (s : St) (h : RS w0 w g s) :
    Calls Try.prog 56 #[.pointer (some ⟨g, 0, none⟩)] w fun x w' => x = .returned (.int .i64 s.1.length) ∧ ∃ m, w' = w.drewN m := by
  obtain ⟨xs, a, bad, h, rfl⟩ := h
  obtain ⟨A, n, c, c0, c1, c2, f1, f2, hC, hc, hn, han⟩ := h.cells
  have hm : n ≤ 9223372036854775807 := hC.2.1
  clear h hC
  by_cases hb : bad = 0
  · subst hb
    have HE := Aside0.mk (show ((told xs a 0).1.length : Int) = (n : Int) - (a : Int) by
      show ((xs.drop a).length : Int) = _
      rw [List.length_drop]; omega)
    clear hn
    go_enter Try.func56, Try.ntmps56
    go_wp2
    go_quiet (fail)
    go_wp2
    go_ret
    exact ⟨by rw [HE.out]; rfl, _, rfl⟩
  · have hne : (bad != 0) = true := bne_yes hb
    have HE := Aside0.mk (show ((told xs a bad).1.length : Int) = 0 by
      show ((if bad = 0 then xs.drop a else []).length : Int) = _
      rw [if_neg hb]; rfl)
    clear hn hb
    go_enter Try.func56, Try.ntmps56
    go_wp2
    go_ret
    exact ⟨by rw [HE.out]; rfl, 0, rfl⟩

set_option maxRecDepth 100000 in
set_option maxHeartbeats 400000 in
theorem end_calls (w0 w : World) (g : Nat) (s : St) (h : RS w0 w g s) :
    Calls Try.prog 46 #[.pointer (some ⟨g, 0, none⟩)] w fun x w' => x = .returned (.int .i64 (rdEnd s)) ∧ ∃ m, w' = w.drewN m := by
  obtain ⟨xs, a, bad, h, rfl⟩ := h
  obtain ⟨A, n, c, c0, c1, c2, f1, f2, hC, hc, hn, han⟩ := h.cells
  have hm : n ≤ 9223372036854775807 := hC.2.1
  clear h hC
  by_cases hb : bad = 0
  · subst hb
    have hl : (told xs a 0).1.length = n - a := by show (xs.drop a).length = _; rw [List.length_drop, hn]
    by_cases h0 : a < n
    · have HE := Aside0.mk (show rdEnd (told xs a 0) = 12 by unfold rdEnd; rw [hl, if_pos ⟨rfl, by omega⟩])
      have hlt : decide ((a : Int) < (n : Int)) = true := decide_eq_true (by omega)
      clear hl hn
      go_enter Try.func46, Try.ntmps46
      go_wp2
      go_quiet (fail)
      go_wp2
      go_ret
      exact ⟨by rw [HE.out]; rfl, _, rfl⟩
    · have HE := Aside0.mk (show rdEnd (told xs a 0) = 0 by unfold rdEnd; rw [hl, if_neg (by omega)]; rfl)
      have hlt : decide ((a : Int) < (n : Int)) = false := decide_eq_false (by omega)
      clear hl hn
      go_enter Try.func46, Try.ntmps46
      go_wp2
      go_quiet (fail)
      go_wp2
      go_ret
      exact ⟨by rw [HE.out]; rfl, _, rfl⟩
  · have hne : (bad == 0) = false := beq_no hb
    have HE := Aside0.mk (show rdEnd (told xs a bad) = bad by unfold rdEnd; rw [if_neg (fun h => hb h.1)]; rfl)
    clear hn hb
    go_enter Try.func46, Try.ntmps46
    go_wp2
    go_quiet (fail)
    go_wp2
    go_ret
    exact ⟨by rw [HE.out]; rfl, _, rfl⟩

set_option maxRecDepth 100000 in
set_option maxHeartbeats 400000 in
theorem count_calls (w0 w : World) (g : Nat) (s : St) (least : Int) (h : RS w0 w g s) (hl0 : -9223372036854775808 ≤ least) (hl1 : least < 9223372036854775808) :
    Calls Try.prog 43 #[.pointer (some ⟨g, 0, none⟩), .int .i64 least] w fun x w' => x = .returned (.int .i64 (rdC least s).1) ∧ RS w0 w' g (rdC least s).2 ∧ KeepBut w w' g none := by
  have hlt := rdU_lt s h.ok
  go_enter Try.func43, Try.ntmps43
  go_wp2_with fail
  refine (uint_calls w0 w g s h).mono ?_
  rintro x w1 ⟨rfl, hr, hk⟩
  have HS := Aside0.mk hr
  have HK := Aside0.mk hk
  have hbad := rdU_bad s
  have HE := Aside0.mk (show rdC least s = if (rdU s).2.2 = 0 ∧ (rdU s).2.1.length / (max least 1).toNat < (rdU s).1 then (0, ([], 10)) else (((rdU s).1 : Int), (rdU s).2) from rfl)
  clear hr hk h
  generalize (rdU s).1 = v at *
  generalize (rdU s).2 = t at *
  obtain ⟨xs, a, bad, h, rfl⟩ := HS.out
  obtain ⟨A, n, c, c0, c1, c2, f1, f2, hC, hc, hn, han⟩ := h.cells
  have H := Aside0.mk h
  have hm : n ≤ 9223372036854775807 := hC.2.1
  clear h hC
  by_cases hb : bad = 0
  · subst hb
    obtain ⟨d, hd1, hd2⟩ : ∃ d : Nat, 1 ≤ d ∧ (max least 1).toNat = d := ⟨_, by omega, rfl⟩
    have hd3 : (least < 1 ∧ d = 1) ∨ (¬ least < 1 ∧ least = (d : Int)) := by omega
    obtain ⟨ll, HL⟩ : ∃ ll, Aside0 ((told xs a 0).1.length = ll ∧ ll ≤ n) := ⟨_, ⟨rfl, by show (xs.drop a).length ≤ n; rw [List.length_drop]; omega⟩⟩
    rw [hd2, HL.out.1] at HE
    have hq : ((ll : Int) / (d : Int)) = ((ll / d : Nat) : Int) := by simp
    have hqn : ll / d ≤ ll := Nat.div_le_self _ _
    have hll : ll ≤ 9223372036854775807 := by have := HL.out.2; omega
    have hd0 : ((d : Int) == 0) = false := beq_no (by omega)
    have hdz : ¬ ((d : Int) = 0) := by omega
    clear hd2 hn hbad
    generalize hqq : ll / d = q at *
    have HQQ := Aside0.mk hqq
    clear hqq
    rcases hd3 with ⟨h1, rfl⟩ | ⟨h1, rfl⟩
    · have hq1 : q = ll := by rw [← HQQ.out, Nat.div_one]
      subst hq1
      clear hq hd0 hdz
      by_cases hlt2 : q < v
      · rw [if_pos ⟨rfl, hlt2⟩] at HE
        go_wp2_with fail
        refine (left_calls w0 w1 g _ HS.out).mono ?_
        rintro x w2 ⟨rfl, m, rfl⟩
        rw [HL.out.1]
        go_wp2_with fail
        go_ret
        exact ⟨by rw [HE.out]; rfl, by rw [HE.out]; exact ⟨xs, a, 10, (H.out.drewN m).setBad 10, rfl⟩, KeepBut.set_ (keep_drewN HK.out m) 2 _⟩
      · rw [if_neg (fun h => hlt2 h.2)] at HE
        go_wp2_with fail
        refine (left_calls w0 w1 g _ HS.out).mono ?_
        rintro x w2 ⟨rfl, m, rfl⟩
        rw [HL.out.1]
        go_wp2_with fail
        go_ret
        exact ⟨by rw [HE.out]; rfl, by rw [HE.out]; exact ⟨xs, a, 0, H.out.drewN m, rfl⟩, keep_drewN HK.out m⟩
    · have hd9 : d ≤ 9223372036854775807 := by omega
      clear hl0 hl1 h1
      by_cases hlt2 : q < v
      · rw [if_pos ⟨rfl, hlt2⟩] at HE
        go_wp2_with fail
        refine (left_calls w0 w1 g _ HS.out).mono ?_
        rintro x w2 ⟨rfl, m, rfl⟩
        rw [HL.out.1]
        go_wp2_with fail
        go_ret
        exact ⟨by rw [HE.out]; rfl, by rw [HE.out]; exact ⟨xs, a, 10, (H.out.drewN m).setBad 10, rfl⟩, KeepBut.set_ (keep_drewN HK.out m) 2 _⟩
      · rw [if_neg (fun h => hlt2 h.2)] at HE
        go_wp2_with fail
        refine (left_calls w0 w1 g _ HS.out).mono ?_
        rintro x w2 ⟨rfl, m, rfl⟩
        rw [HL.out.1]
        go_wp2_with fail
        go_ret
        exact ⟨by rw [HE.out]; rfl, by rw [HE.out]; exact ⟨xs, a, 0, H.out.drewN m, rfl⟩, keep_drewN HK.out m⟩
  · have hv := hbad hb
    subst hv
    have hz1 : (bad == 0) = false := beq_no hb
    rw [if_neg (fun h => hb h.1)] at HE
    clear hbad hb hn
    by_cases h1 : least < 1
    all_goals
      go_wp2_with fail
      go_ret
      exact ⟨by rw [HE.out]; rfl, by rw [HE.out]; exact ⟨xs, a, bad, H.out, rfl⟩, HK.out⟩

set_option maxRecDepth 100000 in
set_option maxHeartbeats 400000 in
theorem text_calls (w0 w : World) (g : Nat) (s : St) (h : RS w0 w g s) :
    Calls Try.prog 45 #[.pointer (some ⟨g, 0, none⟩)] w fun x w' => x = .returned (.string (strOfNums (rdT s).1)) ∧ RS w0 w' g (rdT s).2 ∧ KeepBut w w' g none := by
  have hle := rdC_le s h.ok
  have HT := Aside0.mk (show rdT s = ((rdC 1 s).2.1.take (rdC 1 s).1.toNat, ((rdC 1 s).2.1.drop (rdC 1 s).1.toNat, (rdC 1 s).2.2)) from rfl)
  go_enter Try.func45, Try.ntmps45
  go_wp2_with fail
  refine (count_calls w0 w g s 1 h (by decide) (by decide)).mono ?_
  rintro x w1 ⟨rfl, hr, hk⟩
  have HK := Aside0.mk hk
  generalize (rdC 1 s).1 = kk at *
  generalize (rdC 1 s).2 = t at *
  obtain ⟨xs, a, bad, hr, rfl⟩ := hr
  obtain ⟨A, n, c, c0, c1, c2, f1, f2, hC, hc, hn, han⟩ := hr.cells
  have H := Aside0.mk hr
  have hm : n ≤ 9223372036854775807 := hC.2.1
  clear hr hk h
  obtain ⟨k, rfl⟩ := Int.eq_ofNat_of_zero_le hle.1
  have hkl : k ≤ (told xs a bad).1.length := by simpa using hle.2
  rw [Int.toNat_natCast] at HT
  clear hle
  by_cases hb : bad = 0
  · subst hb
    have hl : (told xs a 0).1 = xs.drop a := rfl
    rw [hl, List.length_drop] at hkl
    obtain ⟨AA, hcut, hC2⟩ := cut_part Try.underlying43 info5 (a := a) (k := k) hC (by omega) hc
    have hs := fun (m cc : Nat) => Kd.C_string Try.underlying43 Try.underlying5 Try.underlying9 (c := cc) (Kd.C_drewN hC2 m)
    have HQ := Aside0.mk (fun m => (H.out.drewN m).setAt (a + k) (by omega))
    have hak : a + k ≤ n := by omega
    have hbad : ((0 : Int) != 0) = false := rfl
    have HD := Aside0.mk (show ((xs.drop a).drop k, (0 : Int)) = told xs (a + k) 0 by show _ = (xs.drop (a + k), (0 : Int)); rw [List.drop_drop])
    rw [hl] at HT
    clear hn hC hl hkl hC2
    go_wp2
    go_quiet (fail)
    go_wp2
    go_ret
    refine ⟨by rw [HT.out]; rfl, ?_, KeepBut.set_ (keep_drewN HK.out _) 1 _⟩
    rw [HT.out]
    exact ⟨xs, a + k, 0, HQ.out _, HD.out⟩
  · have hne : (bad != 0) = true := bne_yes hb
    have HE := Aside0.mk (show (told xs a bad).1 = [] from if_neg hb)
    clear hb hn hC hkl
    go_wp2
    go_ret
    refine ⟨by rw [HT.out, HE.out, List.take_nil]; rfl, ?_, HK.out⟩
    rw [HT.out]
    refine ⟨xs, a, bad, H.out, ?_⟩
    show (List.drop k (told xs a bad).1, bad) = told xs a bad
    rw [HE.out, List.drop_nil]
    exact Prod.ext HE.out.symm rfl
end Go.Proofs.Ytomgfhapmhagnaa.RefReader
