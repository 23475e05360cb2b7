/-
  Proved: a reader of any bytes answers what the reference's reader does, call by call, errors too, and a reader that is none answers nothing (the law WireReads); no condition.
-/
import Derived.Test.YtobddbkffefbkaaRows
import Derived.Test.YtobddbkffefbkaaAwake
import Derived.Test.YtobddbkffefbkaaReader2
import Derived.Test.YtobddbkffefbkaaRefReader2
import Derived.Test.YtobddbkffefbkaaOpen
import Derived.ShutString
import Derived.ChangeOld
namespace Go.Proofs.Ytobddbkffefbkaa.wireReads
set_option linter.unusedVariables false
set_option linter.unusedSimpArgs false
open Go.RowKit Go.Proofs.YtobddbkffefbkaaW.PrintWords Go.Proofs.Ytobddbkffefbkaa.Lib
open Go.ChangeShapes Go.WideShapes Go.ChangeAt
open Go.ChangeMaps (open_string shut_string)
theorem own : ownKnob Try.prog.godebug = none := by kernel_rfl
theorem laidOut : laidOutB Try.prog = true := by kernel_rfl
open Go.Proofs.Ytobddbkffefbkaa.Bas Go.Proofs.YtobddbkffefbkaaW.PrintLast Go.Proofs.YtobddbkffefbkaaW.PrintMore Go.Proofs.Ytobddbkffefbkaa.Read Go.Proofs.Ytobddbkffefbkaa.Reader Go.Proofs.Ytobddbkffefbkaa.RefReader

set_option maxRecDepth 100000 in
set_option maxHeartbeats 400000 in
theorem read_calls (xs : List Int) (n c : Nat) (A : Option Addr) (w : World) (hC : Kd.C (Kd.int .u8) w A n xs) (hc : n ≤ c) (hb : Bytes xs) :
    Calls Try.prog 22 #[.slice A n c] w fun x w' => ∃ g, x = .returned (.pointer (some ⟨g, 0, none⟩)) ∧ Rd w w' g (xs, 0) := by
  have HC := Aside0.mk hC
  clear hC
  go_enter Try.func22, Try.ntmps22
  go_wp2
  go_ret
  exact ⟨w.heap.size, rfl, Nat.le_refl _, below_alloc (Below.refl _ _) _, A, n, c, heap_alloc_new w _, HC.out, hc, hb, fun h => absurd rfl h⟩

set_option maxRecDepth 100000 in
set_option maxHeartbeats 400000 in
theorem walk (xs cs : List Int) (n c m d : Nat) (A B : Option Addr) (w : World) (hr : Kd.C (Kd.int .u8) w A n xs) (hb : Bytes xs) (hc : n ≤ c)
    (hr2 : Kd.C (Kd.int .i64) w B m cs) (hb2 : ∀ x ∈ cs, (Lit.int .i64 x).wf = true) :
    Calls Try.prog 6 #[.slice A n c, .slice B m d] w fun e w' => e = .returned (.bool true) ∧ Below w.heap.size w w' := by
  have HR := Aside0.mk hr
  have HX := Aside0.mk hb
  have HC := Aside0.mk hr2
  have HCB := Aside0.mk hb2
  have hm : m ≤ 9223372036854775807 := hr2.2.1
  clear hr hb hr2 hb2
  go_enter Try.func6, Try.ntmps6
  go_wp2_with fail
  refine (awake_calls w).mono ?_
  rintro e w1 ⟨rfl, hb1⟩
  have HB1 := Aside0.mk hb1
  have HR1 := Aside0.mk (Kd.C_below HR.out hb1)
  have HC1 := Aside0.mk (Kd.C_below HC.out hb1)
  clear hb1 HR HC
  go_wp2_with fail
  refine (read_calls xs n c A w1 HR1.out hc HX.out).mono ?_
  rintro e w2 ⟨g, rfl, hrd⟩
  have HG := Aside0.mk hrd
  clear hrd
  go_wp2_with fail
  have HG1 := Aside0.mk (HG.out.keep (w' := w2.alloc (.cells #[.slice A n c, .int .i64 0, .int .i64 0] 45)) (HG.out.below.alloc HG.out.below.size _) (heap_alloc_old _ _ HG.out.lt))
  have HK1 := Aside0.mk (show RS w1 (w2.alloc (.cells #[.slice A n c, .int .i64 0, .int .i64 0] 45)) w2.heap.size (xs, 0) from
    ⟨xs, 0, 0, ⟨HG.out.below.size, HG.out.below.alloc HG.out.below.size _, A, n, c, heap_alloc_new _ _, HR1.out, hc, HX.out, Nat.zero_le _⟩, rfl⟩)
  have hgg : g ≠ w2.heap.size := by have := HG.out.lt; omega
  clear HG
  generalize w2.alloc _ = W at *
  generalize w2.heap.size = g2 at *
  go_loopw [8] (fun i w' => ∃ (k : Nat) (s : St), k ≤ m ∧ i = .int .i64 k ∧ Aside0 (Rd w1 w' g s) ∧ Aside0 (RS w1 w' g2 s)) (fun i _ => m - (intOf i).toNat)
  case atStart => exact ⟨0, _, Nat.zero_le _, rfl, HG1, HK1⟩
  case round =>
    clear HG1 HK1
    obtain ⟨k, s, hk, rfl, HG, HK⟩ := hrel
    by_cases hlt : k < m ∧ k < 60
    · obtain ⟨hlt1, hlt2⟩ := hlt
      have hbd := bounds_i64 (HCB.out (cs.getD k 0) (by
        have hl : cs.length = m := HC1.out.1
        rw [List.getD_eq_getElem?_getD, List.getElem?_eq_getElem (by omega)]
        exact List.getElem_mem _))
      obtain ⟨ad, e, hcell⟩ := Kd.at_int (Kd.C_below HC1.out HG.out.below) k (by omega) (by omega)
      cases e
      simp only [Int.toNat_natCast, rd_nat] at hcell
      generalize cs.getD k 0 = q at *
      have hb0 := hbd.1
      have hb1 := hbd.2
      clear hbd
      have ht : q.tmod 4 = 0 ∨ q.tmod 4 = 1 ∨ q.tmod 4 = 2 ∨ (q.tmod 4 ≠ 0 ∧ q.tmod 4 ≠ 1 ∧ q.tmod 4 ≠ 2) := by omega
      rcases ht with ht | ht | ht | ht
      · have t0 : (q.tmod 4 == 0) = true := beq_yes ht
        clear ht
        go_wp2_with fail
        refine (Reader.uint_calls w1 wr g s HG.out).mono ?_
        rintro x wa ⟨rfl, hr, hk2⟩
        have HGa := Aside0.mk hr
        have HKa := Aside0.mk (HK.out.keep hr.below (hk2.2 g2 HK.out.lt (Ne.symm hgg) (by simp)))
        clear hr hk2 HG HK
        go_wp2_with fail
        refine (RefReader.uint_calls w1 wa g2 s HKa.out).mono ?_
        rintro x wb ⟨rfl, hr, hk2⟩
        have HKb := Aside0.mk hr
        have HGb := Aside0.mk (HGa.out.keep hr.below (hk2.2 g HGa.out.lt hgg (by simp)))
        clear hr hk2 HGa HKa
        generalize (rdU s).2 = s' at *
        generalize (rdU s).1 = val at *
        go_wp2_with fail
        refine (Reader.left_calls w1 wb g s' HGb.out).mono ?_
        rintro x wc ⟨rfl, rfl⟩
        go_wp2_with fail
        refine (RefReader.left_calls w1 wb g2 s' HKb.out).mono ?_
        rintro x wc ⟨rfl, m1, rfl⟩
        go_wp2_with fail
        refine (Reader.end_calls w1 (wb.drewN m1) g s' (HGb.out.drewN m1)).mono ?_
        rintro x wc ⟨rfl, rfl⟩
        go_wp2_with fail
        refine (RefReader.end_calls w1 (wb.drewN m1) g2 s' (HKb.out.drewN m1)).mono ?_
        rintro x wc ⟨rfl, m2, rfl⟩
        have HGc := Aside0.mk ((HGb.out.drewN m1).drewN m2)
        have HKc := Aside0.mk ((HKb.out.drewN m1).drewN m2)
        clear HGb HKb
        generalize (wb.drewN m1).drewN m2 = wd at *
        go_wp2_with fail
        go_roundw
        case rel => exact ⟨k + 1, s', by omega, by go_num, HGc, HKc⟩
        case measure => simp [intOf]; omega
      · have t0 : (q.tmod 4 == 0) = false := beq_no (by omega)
        have t1 : (q.tmod 4 == 1) = true := beq_yes ht
        clear ht
        go_wp2_with fail
        refine (Reader.int_calls w1 wr g s HG.out).mono ?_
        rintro x wa ⟨rfl, hr, hk2⟩
        have HGa := Aside0.mk hr
        have HKa := Aside0.mk (HK.out.keep hr.below (hk2.2 g2 HK.out.lt (Ne.symm hgg) (by simp)))
        clear hr hk2 HG HK
        go_wp2_with fail
        refine (RefReader.int_calls w1 wa g2 s HKa.out).mono ?_
        rintro x wb ⟨rfl, hr, hk2⟩
        have HKb := Aside0.mk hr
        have HGb := Aside0.mk (HGa.out.keep hr.below (hk2.2 g HGa.out.lt hgg (by simp)))
        clear hr hk2 HGa HKa
        generalize (rdI s).2 = s' at *
        generalize (rdI s).1 = val at *
        go_wp2_with fail
        refine (Reader.left_calls w1 wb g s' HGb.out).mono ?_
        rintro x wc ⟨rfl, rfl⟩
        go_wp2_with fail
        refine (RefReader.left_calls w1 wb g2 s' HKb.out).mono ?_
        rintro x wc ⟨rfl, m1, rfl⟩
        go_wp2_with fail
        refine (Reader.end_calls w1 (wb.drewN m1) g s' (HGb.out.drewN m1)).mono ?_
        rintro x wc ⟨rfl, rfl⟩
        go_wp2_with fail
        refine (RefReader.end_calls w1 (wb.drewN m1) g2 s' (HKb.out.drewN m1)).mono ?_
        rintro x wc ⟨rfl, m2, rfl⟩
        have HGc := Aside0.mk ((HGb.out.drewN m1).drewN m2)
        have HKc := Aside0.mk ((HKb.out.drewN m1).drewN m2)
        clear HGb HKb
        generalize (wb.drewN m1).drewN m2 = wd at *
        go_wp2_with fail
        go_roundw
        case rel => exact ⟨k + 1, s', by omega, by go_num, HGc, HKc⟩
        case measure => simp [intOf]; omega
      · have t0 : (q.tmod 4 == 0) = false := beq_no (by omega)
        have t1 : (q.tmod 4 == 1) = false := beq_no (by omega)
        have t2 : (q.tmod 4 == 2) = true := beq_yes ht
        clear ht
        go_wp2_with fail
        refine (Reader.text_calls w1 wr g s HG.out).mono ?_
        rintro x wa ⟨rfl, hr, hk2⟩
        have HGa := Aside0.mk hr
        have HKa := Aside0.mk (HK.out.keep hr.below (hk2.2 g2 HK.out.lt (Ne.symm hgg) (by simp)))
        clear hr hk2 HG HK
        go_wp2_with fail
        refine (RefReader.text_calls w1 wa g2 s HKa.out).mono ?_
        rintro x wb ⟨rfl, hr, hk2⟩
        have HKb := Aside0.mk hr
        have HGb := Aside0.mk (HGa.out.keep hr.below (hk2.2 g HGa.out.lt hgg (by simp)))
        clear hr hk2 HGa HKa
        generalize (rdT s).2 = s' at *
        generalize (rdT s).1 = val at *
        go_wp2_with fail
        refine (Reader.left_calls w1 wb g s' HGb.out).mono ?_
        rintro x wc ⟨rfl, rfl⟩
        go_wp2_with fail
        refine (RefReader.left_calls w1 wb g2 s' HKb.out).mono ?_
        rintro x wc ⟨rfl, m1, rfl⟩
        go_wp2_with fail
        refine (Reader.end_calls w1 (wb.drewN m1) g s' (HGb.out.drewN m1)).mono ?_
        rintro x wc ⟨rfl, rfl⟩
        go_wp2_with fail
        refine (RefReader.end_calls w1 (wb.drewN m1) g2 s' (HKb.out.drewN m1)).mono ?_
        rintro x wc ⟨rfl, m2, rfl⟩
        have HGc := Aside0.mk ((HGb.out.drewN m1).drewN m2)
        have HKc := Aside0.mk ((HKb.out.drewN m1).drewN m2)
        clear HGb HKb
        generalize (wb.drewN m1).drewN m2 = wd at *
        go_wp2_with fail
        go_roundw
        case rel => exact ⟨k + 1, s', by omega, by go_num, HGc, HKc⟩
        case measure => simp [intOf]; omega
      · have t0 : (q.tmod 4 == 0) = false := beq_no ht.1
        have t1 : (q.tmod 4 == 1) = false := beq_no ht.2.1
        have t2 : (q.tmod 4 == 2) = false := beq_no ht.2.2
        have hq0 : -9223372036854775808 ≤ q.tdiv 4 := (tdiv4_bd q (by omega) (by omega)).1
        have hq1 : q.tdiv 4 < 9223372036854775808 := by have := (tdiv4_bd q (by omega) (by omega)).2; omega
        clear ht
        go_wp2_with fail
        refine (Reader.count_calls w1 wr g s (q.tdiv 4) HG.out hq0 hq1).mono ?_
        rintro x wa ⟨rfl, hr, hk2⟩
        have HGa := Aside0.mk hr
        have HKa := Aside0.mk (HK.out.keep hr.below (hk2.2 g2 HK.out.lt (Ne.symm hgg) (by simp)))
        clear hr hk2 HG HK
        go_wp2_with fail
        refine (RefReader.count_calls w1 wa g2 s (q.tdiv 4) HKa.out hq0 hq1).mono ?_
        rintro x wb ⟨rfl, hr, hk2⟩
        have HKb := Aside0.mk hr
        have HGb := Aside0.mk (HGa.out.keep hr.below (hk2.2 g HGa.out.lt hgg (by simp)))
        clear hr hk2 HGa HKa
        generalize (rdC (q.tdiv 4) s).2 = s' at *
        generalize (rdC (q.tdiv 4) s).1 = val at *
        go_wp2_with fail
        refine (Reader.left_calls w1 wb g s' HGb.out).mono ?_
        rintro x wc ⟨rfl, rfl⟩
        go_wp2_with fail
        refine (RefReader.left_calls w1 wb g2 s' HKb.out).mono ?_
        rintro x wc ⟨rfl, m1, rfl⟩
        go_wp2_with fail
        refine (Reader.end_calls w1 (wb.drewN m1) g s' (HGb.out.drewN m1)).mono ?_
        rintro x wc ⟨rfl, rfl⟩
        go_wp2_with fail
        refine (RefReader.end_calls w1 (wb.drewN m1) g2 s' (HKb.out.drewN m1)).mono ?_
        rintro x wc ⟨rfl, m2, rfl⟩
        have HGc := Aside0.mk ((HGb.out.drewN m1).drewN m2)
        have HKc := Aside0.mk ((HKb.out.drewN m1).drewN m2)
        clear HGb HKb
        generalize (wb.drewN m1).drewN m2 = wd at *
        go_wp2_with fail
        go_roundw
        case rel => exact ⟨k + 1, s', by omega, by go_num, HGc, HKc⟩
        case measure => simp [intOf]; omega
    · have HZ := Aside0.mk (below_then HB1.out HB1.out.size HG.out.below)
      clear HG HK
      go_wp2_with fail
      all_goals
        refine (uint_nil wr).mono ?_
        rintro x wc ⟨rfl, rfl⟩
        go_wp2_with fail
        refine (int_nil wr).mono ?_
        rintro x wc ⟨rfl, rfl⟩
        go_wp2_with fail
        refine (text_nil wr).mono ?_
        rintro x wc ⟨rfl, rfl⟩
        go_wp2_with fail
        refine (count_nil wr).mono ?_
        rintro x wc ⟨rfl, rfl⟩
        go_wp2_with fail
        refine (left_nil wr).mono ?_
        rintro x wc ⟨rfl, rfl⟩
        go_wp2_with fail
        refine (end_nil wr).mono ?_
        rintro x wc ⟨rfl, rfl⟩
        go_wp2_with fail
        go_ret
        exact ⟨rfl, HZ.out⟩

set_option maxRecDepth 100000 in
theorem lifted (os : Os) (started : os.Started) (H : Type) (enc : TypeId × Value → H) :
    ReturnsInHanded {} Try.checked os 6 .any (Rows.wireReadsSpec.pre6 enc Try.prog Try.f6 Rows.wireReadsRow.domain false) (Rows.wireReadsSpec.post enc Try.prog Try.f6 false true false false) := by
  refine returnsInHanded_of_change (C := Try.checked) own started (by kernel_rfl) Try.func6
    (ChangeSpec.witness6 (enc := enc) (C := Try.checked) false ⟨#[], #[.slice none 0 0, .slice none 0 0], []⟩ 8 (by kernel_rfl) (by kernel_rfl) (by kernel_rfl) (by kernel_rfl)) ?_
  intro W base args ds gs before hval0 hW hcnd _
  have hval : ∀ (j : Nat) t v, Try.f6.params[j]? = some t → args[j]? = some v → Value.okWide Try.prog W .any base t v := hval0
  have hW' := hW
  obtain ⟨p, q, hA0, hV, rfl, hfz, hnd⟩ := hW
  have hA : DataW.TrodAll enc Try.prog W 0 (fun _ => true) true Try.f6.params.toList args.toList ds p := hA0
  rw [Try.params6] at hA hval
  obtain ⟨v0, vs0, d0, ds0, p0, q0, hargs, rfl, rfl, h0, r0⟩ := trodAll_cons hA
  obtain ⟨v1, vs1, d1, ds1, p1, q1, rfl, rfl, rfl, h1, r1⟩ := trodAll_cons r0
  obtain ⟨rfl, rfl, rfl⟩ := trodAll_nil r1
  obtain rfl : args = #[v0, v1] := by cases args; simp_all
  obtain ⟨rfl, rfl⟩ := trodVars_none hV
  have k0 := h0
  have lt0 : ∀ x ∈ p0, x.block < W.heap.size := by obtain ⟨m, hm⟩ := k0; exact DataW.trod_lt m _ _ _ hm
  obtain ⟨a0, len0, cap0, rfl⟩ := okWide_slice Try.underlying22 (hval 0 22 v0 rfl rfl)
  obtain ⟨xs0, hl0, hC0, hb0⟩ := open_bytes Try.underlying22 Try.underlying5 (by kernel_rfl) h0
  have k1 := h1
  have lt1 : ∀ x ∈ p1, x.block < W.heap.size := by obtain ⟨m, hm⟩ := k1; exact DataW.trod_lt m _ _ _ hm
  obtain ⟨a1, len1, cap1, rfl⟩ := okWide_slice Try.underlying40 (hval 1 40 v1 rfl rfl)
  obtain ⟨xs1, hl1, hm1, hC1, hb1⟩ := open_nums Try.underlying40 Try.underlying3 (by kernel_rfl) h1
  clear hA0 hval0
  refine (walk xs0 xs1 len0 cap0 len1 cap1 a0 a1 W hC0 hb0 hl0 hC1 hb1).mono fun e W' ⟨he, bel⟩ => ?_
  subst he
  exact ⟨_, rfl, _, _, _, [], _, [], hW', trodAll_mk1 (shut_bool Try.underlying4 _), (trodAll_cons_mk (Below.trod laidOut (by kernel_rfl) (of_decide_eq_true (by kernel_rfl)) k0 bel lt0) (trodAll_cons_mk (Below.trod laidOut (by kernel_rfl) (of_decide_eq_true (by kernel_rfl)) k1 bel lt1) trodAll_mk0)), rfl, bel.frame _, fun h => by cases h⟩

/-- The law. -/
theorem proved : Rows.WireReadsSaid :=
  OpenClaim.holds_of_wide 6 Try.f6 rfl rfl rfl rfl rfl rfl rfl ⟨rfl, rfl, rfl, rfl, rfl⟩ rfl rfl rfl rfl rfl (by kernel_rfl) Try.func6 (by kernel_rfl)
    (of_decide_eq_true (by kernel_rfl)) (by unfold Func.isWrapper; first | (rw [if_pos (by decide +kernel)]; kernel_rfl) | (rw [if_neg (by decide +kernel)]; exact ⟨rfl, rfl⟩))
    (fun os started H enc _ => lifted os started H enc)
#print axioms proved
end Go.Proofs.Ytobddbkffefbkaa.wireReads
