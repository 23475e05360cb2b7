/-
  Proved: numbers are packed, and any bytes unpacked, as the reference says, or refused (the law BitsPacks); no condition.
-/
import Derived.Test.YtcgfheagbaafoaaRows
import Derived.Test.YtcgfheagbaafoaaAwake2
import Derived.Test.YtcgfheagbaafoaaOpen
import Derived.ProofKit
import Derived.OpenShut
import Derived.ShutString
import Derived.ChangeOld
namespace Go.Proofs.Ytcgfheagbaafoaa.bitsPacks
set_option linter.unusedVariables false
set_option linter.unusedSimpArgs false
open Go.RowKit Go.Proofs.YtcgfheagbaafoaaW.PrintWords Go.Proofs.Ytcgfheagbaafoaa.Lib
open Go.ChangeShapes Go.WideShapes Go.ChangeAt
open Go.ChangeMaps (open_string shut_string)
theorem own : ownKnob Try.prog.godebug = none := by kernel_rfl
theorem laidOut : laidOutB Try.prog = true := by kernel_rfl
open Go.Proofs.Ytcgfheagbaafoaa.Pack Go.Proofs.Ytcgfheagbaafoaa.PackA Go.Proofs.Ytcgfheagbaafoaa.Sets

/-- What both Packs answer. -/
def Packs (l : List Int) (m : Nat) (wd : Int) (code : Int) (xs : List Int) : Prop :=
  if wd < 0 ∨ 32 < wd then code = 1 ∧ xs = [] else (Fits l wd.toNat m ∧ code = 0 ∧ xs = packed l wd.toNat) ∨ (¬ Fits l wd.toNat m ∧ code = 1 ∧ xs = [])
theorem Packs.one {l : List Int} {m : Nat} {wd c c' : Int} {xs xs' : List Int} (h : Packs l m wd c xs) (h' : Packs l m wd c' xs') : c' = c ∧ xs' = xs := by
  unfold Packs at h h'
  split at h
  · rename_i hr
    rw [if_pos hr] at h'
    exact ⟨h'.1.trans h.1.symm, h'.2.trans h.2.symm⟩
  · rename_i hr
    rw [if_neg hr] at h'
    rcases h with ⟨h1, h2, h3⟩ | ⟨h1, h2, h3⟩ <;> rcases h' with ⟨g1, g2, g3⟩ | ⟨g1, g2, g3⟩
    · exact ⟨g2.trans h2.symm, g3.trans h3.symm⟩
    · exact absurd h1 g1
    · exact absurd g1 h1
    · exact ⟨g2.trans h2.symm, g3.trans h3.symm⟩
theorem pack_all (l : List Int) (A : Option Addr) (m c : Nat) (wd : Int) (w : World) (hC : Kd.C (Kd.int .i64) w A m l) (hm : m ≤ 5000) (hl : ∀ x ∈ l, -9223372036854775808 ≤ x ∧ x ≤ 9223372036854775807) :
    Calls Try.prog 7 #[.slice A m c, .int .i64 wd] w fun e w' => ∃ v code xs, e = .returned (.tuple #[v, .int .i64 code]) ∧ Kd.R (Kd.int .u8) 5 w' w.heap.size (fun _ => True) v xs ∧ Below w.heap.size w w' ∧ Packs l m wd code xs := by
  by_cases hr : wd < 0 ∨ 32 < wd
  · refine (pack_range A m c wd w hr).mono ?_
    rintro e w' ⟨rfl, rfl⟩
    exact ⟨_, _, [], rfl, Kd.R_nil _ _ _ _ _, Below.refl _ _, by unfold Packs; rw [if_pos hr]; exact ⟨rfl, rfl⟩⟩
  · obtain ⟨n, rfl⟩ := Int.eq_ofNat_of_zero_le (show 0 ≤ wd by omega)
    refine (pack_calls l A m c n w hC hm (by omega) hl).mono ?_
    rintro e w' ⟨v, code, xs, rfl, ho, hb, hc⟩
    exact ⟨v, code, xs, rfl, ho, hb, by unfold Packs; rw [if_neg hr, Int.toNat_natCast]; exact hc⟩
theorem refpack_all (l : List Int) (A : Option Addr) (m c : Nat) (wd : Int) (w : World) (hC : Kd.C (Kd.int .i64) w A m l) (hm : m ≤ 5000) (hl : ∀ x ∈ l, -9223372036854775808 ≤ x ∧ x ≤ 9223372036854775807) :
    Calls Try.prog 8 #[.slice A m c, .int .i64 wd] w fun e w' => ∃ v code xs, e = .returned (.tuple #[v, .int .i64 code]) ∧ Kd.R (Kd.int .u8) 5 w' w.heap.size (fun _ => True) v xs ∧ Below w.heap.size w w' ∧ Packs l m wd code xs := by
  by_cases hr : wd < 0 ∨ 32 < wd
  · refine (refpack_range A m c wd w hr).mono ?_
    rintro e w' ⟨rfl, rfl⟩
    exact ⟨_, _, [], rfl, Kd.R_nil _ _ _ _ _, Below.refl _ _, by unfold Packs; rw [if_pos hr]; exact ⟨rfl, rfl⟩⟩
  · obtain ⟨n, rfl⟩ := Int.eq_ofNat_of_zero_le (show 0 ≤ wd by omega)
    refine (refpack_calls l A m c n w hC hm (by omega) hl).mono ?_
    rintro e w' ⟨v, code, xs, rfl, ho, hb, hc⟩
    exact ⟨v, code, xs, rfl, ho, hb, by unfold Packs; rw [if_neg hr, Int.toNat_natCast]; exact hc⟩
open Classical in
/-- What both Unpacks answer: code and numbers. -/
noncomputable def unpacks (b : List Int) (m : Nat) (wd many : Int) : List Int × Int :=
  if wd < 0 ∨ 32 < wd ∨ many < 0 ∨ 1048576 < many then ([], 1) else if m = long (wd.toNat * many.toNat) ∧ Tidy b (wd.toNat * many.toNat) then (unpk b wd.toNat many.toNat, 0) else ([], 12)
open Classical in
theorem unpack_all (b : List Int) (A : Option Addr) (m c : Nat) (wd many : Int) (w : World) (hC : Kd.C (Kd.int .u8) w A m b) (hb : Bytes b) (hm : many ≤ 5000 ∨ 1048576 < many) :
    Calls Try.prog 11 #[.slice A m c, .int .i64 wd, .int .i64 many] w fun e w' => ∃ v, e = .returned (.tuple #[v, .int .i64 (unpacks b m wd many).2]) ∧ Kd.R (Kd.int .i64) 3 w' w.heap.size (fun _ => True) v (unpacks b m wd many).1 ∧ Below w.heap.size w w' := by
  by_cases hr : wd < 0 ∨ 32 < wd ∨ many < 0 ∨ 1048576 < many
  · refine (unpack_range A m c wd many w hr).mono ?_
    rintro e w' ⟨rfl, rfl⟩
    unfold unpacks
    rw [if_pos hr]
    exact ⟨_, rfl, Kd.R_nil _ _ _ _ _, Below.refl _ _⟩
  · obtain ⟨n, rfl⟩ := Int.eq_ofNat_of_zero_le (show 0 ≤ wd by omega)
    obtain ⟨k, rfl⟩ := Int.eq_ofNat_of_zero_le (show 0 ≤ many by omega)
    refine (unpack_calls b A m c n k w hC hb (by omega) (by omega) (decide (m = long (n * k) ∧ Tidy b (n * k))) (by simp)).mono ?_
    rintro e w' ⟨v, rfl, ho, hb⟩
    unfold unpacks
    rw [if_neg hr, Int.toNat_natCast, Int.toNat_natCast]
    by_cases hok : m = long (n * k) ∧ Tidy b (n * k)
    · rw [decide_eq_true hok] at ho ⊢; rw [if_pos hok]; exact ⟨v, rfl, ho, hb⟩
    · rw [decide_eq_false hok] at ho ⊢; rw [if_neg hok]; exact ⟨v, rfl, ho, hb⟩
open Classical in
theorem refunpack_all (b : List Int) (A : Option Addr) (m c : Nat) (wd many : Int) (w : World) (hC : Kd.C (Kd.int .u8) w A m b) (hb : Bytes b) (hm : many ≤ 5000 ∨ 1048576 < many) :
    Calls Try.prog 12 #[.slice A m c, .int .i64 wd, .int .i64 many] w fun e w' => ∃ v, e = .returned (.tuple #[v, .int .i64 (unpacks b m wd many).2]) ∧ Kd.R (Kd.int .i64) 3 w' w.heap.size (fun _ => True) v (unpacks b m wd many).1 ∧ Below w.heap.size w w' := by
  by_cases hr : wd < 0 ∨ 32 < wd ∨ many < 0 ∨ 1048576 < many
  · refine (refunpack_range A m c wd many w hr).mono ?_
    rintro e w' ⟨rfl, rfl⟩
    unfold unpacks
    rw [if_pos hr]
    exact ⟨_, rfl, Kd.R_nil _ _ _ _ _, Below.refl _ _⟩
  · obtain ⟨n, rfl⟩ := Int.eq_ofNat_of_zero_le (show 0 ≤ wd by omega)
    obtain ⟨k, rfl⟩ := Int.eq_ofNat_of_zero_le (show 0 ≤ many by omega)
    refine (refunpack_calls b A m c n k w hC hb (by omega) (by omega) (decide (m = long (n * k) ∧ Tidy b (n * k))) (by simp)).mono ?_
    rintro e w' ⟨v, rfl, ho, hb⟩
    unfold unpacks
    rw [if_neg hr, Int.toNat_natCast, Int.toNat_natCast]
    by_cases hok : m = long (n * k) ∧ Tidy b (n * k)
    · rw [decide_eq_true hok] at ho ⊢; rw [if_pos hok]; exact ⟨v, rfl, ho, hb⟩
    · rw [decide_eq_false hok] at ho ⊢; rw [if_neg hok]; exact ⟨v, rfl, ho, hb⟩

set_option maxRecDepth 100000 in
set_option maxHeartbeats 400000 in
theorem same_calls (xs : List Int) (A B : Option Addr) (n m c d : Nat) (w : World) (hA : Kd.C (Kd.int .i64) w A n xs) (hB : Kd.C (Kd.int .i64) w B m xs) :
    Calls Try.prog 13 #[.slice A n c, .slice B m d] w fun e w' => e = .returned (.bool true) ∧ Drawn0 w w' := by
  have HA := Aside0.mk hA
  have HB := Aside0.mk hB
  obtain rfl := hA.1
  obtain rfl := hB.1
  have hm := hA.2.1
  clear hA hB
  go_enter Try.func13, Try.ntmps13
  go_wp2_with fail
  go_loopw [5] (fun i w' => ∃ k : Nat, k ≤ xs.length ∧ i = .int .i64 k ∧ Drawn0 w w') (fun i _ => xs.length - (intOf i).toNat)
  case atStart => exact ⟨0, by omega, rfl, Drawn0.refl _⟩
  case round =>
    obtain ⟨k, hk, rfl, ⟨m1, rfl⟩⟩ := hrel
    by_cases hlt : k < xs.length
    · obtain ⟨ad, e, hcell⟩ := Kd.at_int HA.out k (by omega) (by omega)
      subst e
      obtain ⟨ad2, e, hcell2⟩ := Kd.at_int HB.out k (by omega) (by omega)
      subst e
      simp only [Int.toNat_natCast, rd_nat] at hcell hcell2
      have hi1 : (k : Int) < (xs.length : Int) := by omega
      have hi0 : (0 : Int) ≤ (k : Int) := by omega
      generalize xs.getD k 0 = bx at *
      have hbb : (bx != bx) = false := by simp
      go_wp2
      go_quiet (fail)
      go_wp2
      go_roundw
      case rel => exact ⟨k + 1, by omega, by go_num, by repeat (first | exact Drawn0.refl _ | apply Drawn0.step)⟩
      case measure => simp [intOf]; omega
    · have : k = xs.length := by omega
      subst this
      go_wp2
      go_ret
      exact ⟨rfl, by repeat (first | exact Drawn0.refl _ | apply Drawn0.step)⟩

theorem i64_bd {n : Int} (h : (Lit.int .i64 n).wf = true) : -9223372036854775808 ≤ n ∧ n ≤ 9223372036854775807 := by
  have := bounds_i64 h
  omega

set_option maxRecDepth 100000 in
set_option maxHeartbeats 1600000 in
theorem walk (l b : List Int) (A B : Option Addr) (m c k d : Nat) (wd many n : Int) (w : World) (hC : Kd.C (Kd.int .i64) w A m l) (hl : ∀ x ∈ l, -9223372036854775808 ≤ x ∧ x ≤ 9223372036854775807)
    (hB : Kd.C (Kd.int .u8) w B k b) (hb : Bytes b) (hn0 : -9223372036854775808 ≤ n) (hn1 : n ≤ 9223372036854775807) (hk0 : -9223372036854775808 ≤ many) (hk1 : many ≤ 9223372036854775807) :
    Calls Try.prog 3 #[.slice A m c, .int .i64 wd, .slice B k d, .int .i64 many, .int .i64 n] w fun e w' => e = .returned (.bool true) ∧ Below w.heap.size w w' := by
  have HC := Aside0.mk hC
  have HB := Aside0.mk hB
  have HX := Aside0.mk hb
  have HL := Aside0.mk hl
  clear hC hB hb hl
  go_enter Try.func3, Try.ntmps3
  go_wp2_with fail
  refine (awake_calls w).mono ?_
  rintro e w1 ⟨rfl, hb1⟩
  have HB1 := Aside0.mk hb1
  have HC1 := Aside0.mk (Kd.C_below HC.out hb1)
  have HD1 := Aside0.mk (Kd.C_below HB.out hb1)
  clear hb1 HC HB
  by_cases hm : m ≤ 5000
  case neg =>
    have hm2 : 5000 < m := by omega
    clear hm
    go_wp2_with fail
    go_ret
    exact ⟨rfl, HB1.out⟩
  case pos =>
    go_wp2_with fail
    refine (pack_all l A m c wd w1 HC1.out hm HL.out).mono ?_
    rintro e w2 ⟨v2, code, xs, rfl, ho, hb, hp⟩
    have HB2 := Aside0.mk (below_then HB1.out HB1.out.size hb)
    have HC2 := Aside0.mk (Kd.C_below HC1.out hb)
    have HD2 := Aside0.mk (Kd.C_below HD1.out hb)
    have HO2 := Aside0.mk ho
    have HP2 := Aside0.mk hp
    clear ho hb hp HB1 HC1 HD1
    go_wp2_with fail
    refine (refpack_all l A m c wd w2 HC2.out hm HL.out).mono ?_
    rintro e w3 ⟨v3, code', xs', rfl, ho, hb, hp⟩
    obtain ⟨rfl, rfl⟩ := HP2.out.one hp
    have HB3 := Aside0.mk (below_then HB2.out HB2.out.size hb)
    have HD3 := Aside0.mk (Kd.C_below HD2.out hb)
    have HO3 := Aside0.mk ho
    have HQ3 := Aside0.mk (Kd.R_below HO2.out hb)
    obtain ⟨A2, c2, rfl, hc2, hC2⟩ := Kd.R_reads HQ3.out
    obtain ⟨A3, c3, rfl, hc3, hC3⟩ := Kd.R_reads HO3.out
    have hs2 := Kd.C_string Try.underlying23 Try.underlying5 Try.underlying9 (c := c2) hC2
    have hs3 := Kd.C_string Try.underlying23 Try.underlying5 Try.underlying9 (c := c3) hC3
    have hcc : (code' != code') = false := by simp
    generalize xs'.length = n2 at *
    clear ho hb hp HB2 HC2 HD2 HO2 HP2 HQ3 HO3 hC2 hC3 hc2 hc3
    generalize strOfNums xs' = st at *
    go_wp2_with fail
    clear hs2 hs3
    refine (width_calls n w3 hn0 hn1).mono ?_
    rintro e w4 ⟨rfl, rfl⟩
    generalize hwn : widthOf n = wn at *
    have HWN := Aside0.mk hwn
    clear hwn
    go_wp2_with fail
    refine (refwidth_calls n w3 hn0 hn1).mono ?_
    rintro e w4 ⟨rfl, rfl⟩
    rw [HWN.out]
    have hww : ((wn : Int) != (wn : Int)) = false := by simp
    by_cases hmany : 5000 < many ∧ many ≤ 1048576
    · obtain ⟨h1, h2⟩ := hmany
      obtain ⟨q, hq, hq5⟩ : ∃ q : Nat, many.tmod 5000 = (q : Int) ∧ q < 5000 := by
        refine ⟨(many % 5000).toNat, ?_, ?_⟩
        · rw [Int.tmod_eq_emod_of_nonneg (by omega)]; omega
        · omega
      go_wp2_with fail
      refine (unpack_all b B k d wd ((q : Int)) w3 HD3.out HX.out (.inl (by omega))).mono ?_
      rintro e w4 ⟨v4, rfl, ho, hb⟩
      have HB4 := Aside0.mk (below_then HB3.out HB3.out.size hb)
      have HD4 := Aside0.mk (Kd.C_below HD3.out hb)
      have HO4 := Aside0.mk ho
      clear ho hb HB3 HD3
      go_wp2_with fail
      refine (refunpack_all b B k d wd ((q : Int)) w4 HD4.out HX.out (.inl (by omega))).mono ?_
      rintro e w5 ⟨v5, rfl, ho, hb⟩
      have HB5 := Aside0.mk (below_then HB4.out HB4.out.size hb)
      have HO5 := Aside0.mk ho
      have HQ5 := Aside0.mk (Kd.R_below HO4.out hb)
      obtain ⟨A4, c4, rfl, -, hC4⟩ := Kd.R_reads HQ5.out
      obtain ⟨A5, c5, rfl, -, hC5⟩ := Kd.R_reads HO5.out
      have HC4 := Aside0.mk hC4
      have HC5 := Aside0.mk hC5
      clear ho hb HB4 HD4 HO4 HO5 HQ5 hC4 hC5
      generalize unpacks b k wd ((q : Int)) = up at *
      obtain ⟨us, uc⟩ := up
      replace HC4 : Aside0 (Kd.C (Kd.int .i64) w5 A4 us.length us) := HC4
      replace HC5 : Aside0 (Kd.C (Kd.int .i64) w5 A5 us.length us) := HC5
      have huc : (uc == uc) = true := by simp
      go_wp2_with fail
      refine (same_calls us A4 A5 _ _ c4 c5 w5 HC4.out HC5.out).mono ?_
      rintro e w6 ⟨rfl, hd⟩
      have HB6 := Aside0.mk (below_then HB5.out HB5.out.size hd.below)
      clear hd
      go_wp2_with fail
      go_ret
      exact ⟨rfl, HB6.out⟩
    · by_cases h1 : 5000 < many
      · have h2 : 1048576 < many := by omega
        clear hmany
        have HOR := Aside0.mk (show many ≤ 5000 ∨ 1048576 < many from .inr h2)
        go_wp2_with fail
        refine (unpack_all b B k d wd (many) w3 HD3.out HX.out HOR.out).mono ?_
        rintro e w4 ⟨v4, rfl, ho, hb⟩
        have HB4 := Aside0.mk (below_then HB3.out HB3.out.size hb)
        have HD4 := Aside0.mk (Kd.C_below HD3.out hb)
        have HO4 := Aside0.mk ho
        clear ho hb HB3 HD3
        go_wp2_with fail
        refine (refunpack_all b B k d wd (many) w4 HD4.out HX.out HOR.out).mono ?_
        rintro e w5 ⟨v5, rfl, ho, hb⟩
        have HB5 := Aside0.mk (below_then HB4.out HB4.out.size hb)
        have HO5 := Aside0.mk ho
        have HQ5 := Aside0.mk (Kd.R_below HO4.out hb)
        obtain ⟨A4, c4, rfl, -, hC4⟩ := Kd.R_reads HQ5.out
        obtain ⟨A5, c5, rfl, -, hC5⟩ := Kd.R_reads HO5.out
        have HC4 := Aside0.mk hC4
        have HC5 := Aside0.mk hC5
        clear ho hb HB4 HD4 HO4 HO5 HQ5 hC4 hC5
        generalize unpacks b k wd (many) = up at *
        obtain ⟨us, uc⟩ := up
        replace HC4 : Aside0 (Kd.C (Kd.int .i64) w5 A4 us.length us) := HC4
        replace HC5 : Aside0 (Kd.C (Kd.int .i64) w5 A5 us.length us) := HC5
        have huc : (uc == uc) = true := by simp
        go_wp2_with fail
        refine (same_calls us A4 A5 _ _ c4 c5 w5 HC4.out HC5.out).mono ?_
        rintro e w6 ⟨rfl, hd⟩
        have HB6 := Aside0.mk (below_then HB5.out HB5.out.size hd.below)
        clear hd
        go_wp2_with fail
        go_ret
        exact ⟨rfl, HB6.out⟩
      · clear hmany
        have HOR := Aside0.mk (show many ≤ 5000 ∨ 1048576 < many from .inl (by omega))
        go_wp2_with fail
        refine (unpack_all b B k d wd (many) w3 HD3.out HX.out HOR.out).mono ?_
        rintro e w4 ⟨v4, rfl, ho, hb⟩
        have HB4 := Aside0.mk (below_then HB3.out HB3.out.size hb)
        have HD4 := Aside0.mk (Kd.C_below HD3.out hb)
        have HO4 := Aside0.mk ho
        clear ho hb HB3 HD3
        go_wp2_with fail
        refine (refunpack_all b B k d wd (many) w4 HD4.out HX.out HOR.out).mono ?_
        rintro e w5 ⟨v5, rfl, ho, hb⟩
        have HB5 := Aside0.mk (below_then HB4.out HB4.out.size hb)
        have HO5 := Aside0.mk ho
        have HQ5 := Aside0.mk (Kd.R_below HO4.out hb)
        obtain ⟨A4, c4, rfl, -, hC4⟩ := Kd.R_reads HQ5.out
        obtain ⟨A5, c5, rfl, -, hC5⟩ := Kd.R_reads HO5.out
        have HC4 := Aside0.mk hC4
        have HC5 := Aside0.mk hC5
        clear ho hb HB4 HD4 HO4 HO5 HQ5 hC4 hC5
        generalize unpacks b k wd (many) = up at *
        obtain ⟨us, uc⟩ := up
        replace HC4 : Aside0 (Kd.C (Kd.int .i64) w5 A4 us.length us) := HC4
        replace HC5 : Aside0 (Kd.C (Kd.int .i64) w5 A5 us.length us) := HC5
        have huc : (uc == uc) = true := by simp
        go_wp2_with fail
        refine (same_calls us A4 A5 _ _ c4 c5 w5 HC4.out HC5.out).mono ?_
        rintro e w6 ⟨rfl, hd⟩
        have HB6 := Aside0.mk (below_then HB5.out HB5.out.size hd.below)
        clear hd
        go_wp2_with fail
        go_ret
        exact ⟨rfl, HB6.out⟩

set_option maxRecDepth 100000 in
theorem lifted (os : Os) (started : os.Started) (H : Type) (enc : TypeId × Value → H) :
    ReturnsInHanded {} Try.checked os 3 .any (Rows.bitsPacksSpec.pre6 enc Try.prog Try.f3 Rows.bitsPacksRow.domain false) (Rows.bitsPacksSpec.post enc Try.prog Try.f3 false true false false) := by
  refine returnsInHanded_of_change (C := Try.checked) own started (by kernel_rfl) Try.func3
    (ChangeSpec.witness6 (enc := enc) (C := Try.checked) false ⟨#[], #[.slice none 0 0, .int .i64 0, .slice none 0 0, .int .i64 0, .int .i64 0], []⟩ 8 (by kernel_rfl) (by kernel_rfl) (by kernel_rfl) (by kernel_rfl)) ?_
  intro W base args ds gs before hval0 hW hcnd _
  have hval : ∀ (j : Nat) t v, Try.f3.params[j]? = some t → args[j]? = some v → Value.okWide Try.prog W .any base t v := hval0
  have hW' := hW
  obtain ⟨p, q, hA0, hV, rfl, hfz, hnd⟩ := hW
  have hA : DataW.TrodAll enc Try.prog W 0 (fun _ => true) true Try.f3.params.toList args.toList ds p := hA0
  rw [Try.params3] at hA hval
  obtain ⟨v0, vs0, d0, ds0, p0, q0, hargs, rfl, rfl, h0, r0⟩ := trodAll_cons hA
  obtain ⟨v1, vs1, d1, ds1, p1, q1, rfl, rfl, rfl, h1, r1⟩ := trodAll_cons r0
  obtain ⟨v2, vs2, d2, ds2, p2, q2, rfl, rfl, rfl, h2, r2⟩ := trodAll_cons r1
  obtain ⟨v3, vs3, d3, ds3, p3, q3, rfl, rfl, rfl, h3, r3⟩ := trodAll_cons r2
  obtain ⟨v4, vs4, d4, ds4, p4, q4, rfl, rfl, rfl, h4, r4⟩ := trodAll_cons r3
  obtain ⟨rfl, rfl, rfl⟩ := trodAll_nil r4
  obtain rfl : args = #[v0, v1, v2, v3, v4] := by cases args; simp_all
  obtain ⟨rfl, rfl⟩ := trodVars_none hV
  have k0 := h0
  have lt0 : ∀ x ∈ p0, x.block < W.heap.size := by obtain ⟨m, hm⟩ := k0; exact DataW.trod_lt m _ _ _ hm
  obtain ⟨a0, len0, cap0, rfl⟩ := okWide_slice Try.underlying22 (hval 0 22 v0 rfl rfl)
  obtain ⟨xs0, hl0, hm0, hC0, hb0⟩ := open_nums Try.underlying22 Try.underlying3 (by kernel_rfl) h0
  have k1 := h1
  have lt1 : ∀ x ∈ p1, x.block < W.heap.size := by obtain ⟨m, hm⟩ := k1; exact DataW.trod_lt m _ _ _ hm
  obtain ⟨a1, rfl, _, _, w1⟩ := open_int Try.underlying3 (hval 1 3 v1 rfl rfl) h1
  have k2 := h2
  have lt2 : ∀ x ∈ p2, x.block < W.heap.size := by obtain ⟨m, hm⟩ := k2; exact DataW.trod_lt m _ _ _ hm
  obtain ⟨a2, len2, cap2, rfl⟩ := okWide_slice Try.underlying23 (hval 2 23 v2 rfl rfl)
  obtain ⟨xs2, hl2, hC2, hb2⟩ := open_bytes Try.underlying23 Try.underlying5 (by kernel_rfl) h2
  have k3 := h3
  have lt3 : ∀ x ∈ p3, x.block < W.heap.size := by obtain ⟨m, hm⟩ := k3; exact DataW.trod_lt m _ _ _ hm
  obtain ⟨a3, rfl, _, _, w3⟩ := open_int Try.underlying3 (hval 3 3 v3 rfl rfl) h3
  have k4 := h4
  have lt4 : ∀ x ∈ p4, x.block < W.heap.size := by obtain ⟨m, hm⟩ := k4; exact DataW.trod_lt m _ _ _ hm
  obtain ⟨a4, rfl, _, _, w4⟩ := open_int Try.underlying3 (hval 4 3 v4 rfl rfl) h4
  clear hA0 hval0
  refine (walk xs0 xs2 a0 a2 _ _ _ _ a1 a3 a4 W hC0 (fun x hx => i64_bd (hb0 x hx)) hC2 hb2 (i64_bd w4).1 (i64_bd w4).2 (i64_bd w3).1 (i64_bd w3).2).mono fun e W' ⟨he, bel⟩ => ?_
  subst he
  exact ⟨_, rfl, _, _, _, [], _, [], hW', trodAll_mk1 (shut_bool Try.underlying4 _), (trodAll_cons_mk (Below.trod laidOut (by kernel_rfl) (of_decide_eq_true (by kernel_rfl)) k0 bel lt0) (trodAll_cons_mk (Below.trod laidOut (by kernel_rfl) (of_decide_eq_true (by kernel_rfl)) k1 bel lt1) (trodAll_cons_mk (Below.trod laidOut (by kernel_rfl) (of_decide_eq_true (by kernel_rfl)) k2 bel lt2) (trodAll_cons_mk (Below.trod laidOut (by kernel_rfl) (of_decide_eq_true (by kernel_rfl)) k3 bel lt3) (trodAll_cons_mk (Below.trod laidOut (by kernel_rfl) (of_decide_eq_true (by kernel_rfl)) k4 bel lt4) trodAll_mk0))))), rfl, bel.frame _, fun h => by cases h⟩

/-- The law. -/
theorem proved : Rows.BitsPacksSaid :=
  OpenClaim.holds_of_wide 3 Try.f3 rfl rfl rfl rfl rfl rfl rfl ⟨rfl, rfl, rfl, rfl, rfl⟩ rfl rfl rfl rfl rfl (by kernel_rfl) Try.func3 (by kernel_rfl)
    (of_decide_eq_true (by kernel_rfl)) (by unfold Func.isWrapper; first | (rw [if_pos (by decide +kernel)]; kernel_rfl) | (rw [if_neg (by decide +kernel)]; exact ⟨rfl, rfl⟩))
    (fun os started H enc _ => lifted os started H enc)
#print axioms proved
end Go.Proofs.Ytcgfheagbaafoaa.bitsPacks
