/-
  Proved: the numbers of a beginning are just those of the texts that begin so (the law DictBegins); no condition.
-/
import Derived.Test.YtomgfhapmhagnaaRows
import Derived.Test.YtomgfhapmhagnaaDictW
import Derived.Test.YtomgfhapmhagnaaOpenS
import Derived.ProofKit
import Derived.OpenShut
import Derived.ShutString
import Derived.ChangeOld
namespace Go.Proofs.Ytomgfhapmhagnaa.dictBegins
set_option linter.unusedVariables false
set_option linter.unusedSimpArgs false
open Go.RowKit Go.Proofs.YtomgfhapmhagnaaW.PrintWords Go.Proofs.Ytomgfhapmhagnaa.Lib
open Go.ChangeShapes Go.WideShapes Go.ChangeAt
open Go.ChangeMaps (open_string shut_string)
theorem own : ownKnob Try.prog.godebug = none := by kernel_rfl
theorem laidOut : laidOutB Try.prog = true := by kernel_rfl
open Go.Proofs.Ytomgfhapmhagnaa.Txt Go.Proofs.YtomgfhapmhagnaaW.PrintLast Go.Proofs.YtomgfhapmhagnaaW.PrintMore

theorem begins_span {l : List T} (h : l.Pairwise (· < ·)) (p : T) (k : Nat) (hk : k < l.length) : begins (l.getD k []) p = true ↔ fromOf l p ≤ k ∧ k < fromOf l p + runOf l p := by
  have hd : ∀ i, (l.drop (fromOf l p)).getD i [] = l.getD (fromOf l p + i) [] := fun i => by
    rw [List.getD_eq_getElem?_getD, List.getElem?_drop, List.getD_eq_getElem?_getD]
  have hlen : (l.drop (fromOf l p)).length = l.length - fromOf l p := List.length_drop
  constructor
  · intro hb
    have h1 : fromOf l p ≤ k := by
      apply Nat.le_of_not_lt
      intro h2
      exact begins_ge p _ ((begins_iff _ _).1 hb) (fromOf_lt l p k h2)
    refine ⟨h1, Nat.lt_of_not_le fun h2 => ?_⟩
    have h3 := run_not p (l.drop (fromOf l p)) (by unfold runOf at h2; omega)
    rw [hd] at h3
    have h4 := mono_run h p (runOf l p) (k - fromOf l p) (by omega) (by omega) (by unfold runOf; rw [h3]; rfl)
    rw [show fromOf l p + (k - fromOf l p) = k by omega, hb] at h4
    cases h4
  · rintro ⟨h1, h2⟩
    have h3 := run_at p (l.drop (fromOf l p)) (k - fromOf l p) (by unfold runOf at h2; omega)
    rw [hd, show fromOf l p + (k - fromOf l p) = k by omega] at h3
    exact h3
theorem ext_begins (s p : ByteArray) (h : p.size ≤ s.size) : ((s.extract 0 p.size).toList == p.toList) = begins s.data.toList p.data.toList := by
  rw [begins_take, Bool.eq_iff_iff, beq_iff_eq, decide_eq_true_iff, ByteArray.toList_eq, ByteArray.toList_eq, ByteArray.data_extract, Array.toList_extract, List.extract_eq_take_drop]
  have h1 : p.data.toList.length = p.size := rfl
  have h2 : s.data.toList.length = s.size := rfl
  rw [h1, h2, Nat.sub_zero, List.drop_zero]
  exact ⟨fun h3 => ⟨h, h3⟩, fun h3 => h3.2⟩
theorem far_begins (s p : ByteArray) (h : s.size < p.size) : begins s.data.toList p.data.toList = false := by
  rw [begins_take, decide_eq_false_iff_not]
  have h1 : p.data.toList.length = p.size := rfl
  have h2 : s.data.toList.length = s.size := rfl
  rw [h1, h2]
  omega

set_option maxRecDepth 100000 in
set_option maxHeartbeats 1600000 in
theorem walk (ts : List T) (A : Option Addr) (n c : Nat) (p : ByteArray) (w : World) (hC : text.C w A n ts) (hm : n * 16 ≤ 140737488355328) :
    Calls Try.prog 6 #[.slice A n c, .string p] w fun e w' => e = .returned (.bool true) ∧ Below w.heap.size w w' := by
  have HC := Aside0.mk hC
  have HL := Aside0.mk (show ts.length * 16 ≤ 140737488355328 by rw [show ts.length = n from hC.1]; exact hm)
  clear hC
  go_enter Try.func6, Try.ntmps6
  go_wp2_with fail
  refine (awake_calls w).mono ?_
  rintro e w1 ⟨rfl, hb⟩
  have HB1 := Aside0.mk hb
  have HC1 := Aside0.mk (Kd.C_below HC.out hb)
  clear hb
  go_wp2_with fail
  refine (build_calls ts A n c w1 HC1.out HL.out).mono ?_
  cases hbu : build ts
  case none =>
    rintro e w2 ⟨rfl, hb⟩
    have HB2 := Aside0.mk (below_then HB1.out HB1.out.size hb)
    clear hb hbu
    go_wp2_with fail
    go_ret
    exact ⟨rfl, HB2.out⟩
  case some l =>
    rintro e w2 ⟨⟨g, rfl, hg, hs⟩, hb⟩
    have HB2 := Aside0.mk (below_then HB1.out HB1.out.size hb)
    have HS2 := Aside0.mk hs
    obtain ⟨-, hl, -, hr⟩ := build_fit hbu
    have HR := Aside0.mk hr
    clear hb hbu hs hg
    go_wp2_with fail
    refine (begin_calls w2 g l p HS2.out hr (by omega)).mono ?_
    have HSp := Aside0.mk (begins_span hr p.data.toList)
    have hrl := runOf_le l p.data.toList
    clear hr
    generalize fromOf l p.data.toList = lo at *
    obtain ⟨hi, hhi⟩ : ∃ hi, lo + runOf l p.data.toList = hi := ⟨_, rfl⟩
    rw [hhi] at hrl HSp ⊢
    have hlo : lo ≤ hi := by omega
    clear hhi
    rintro e w3 ⟨rfl, hb⟩
    have HB3 := Aside0.mk (below_then HB2.out HB2.out.size hb)
    have HS3 := Aside0.mk (HS2.out.below hb)
    clear hb HS2 HB2
    obtain ⟨m, hm2⟩ : ∃ m, l.length = m := ⟨_, rfl⟩
    have HLen := Aside0.mk (fun w (h : DictAt w g l) => len_calls w g l h)
    rw [hm2] at HLen HSp hl hrl
    have HM := Aside0.mk hm2
    have hlo4 : decide (hi < lo) = false := decide_eq_false (by omega)
    have hlo5 : decide (m < hi) = false := decide_eq_false (by omega)
    have hlo3 : decide ((lo : Int) < 0) = false := decide_eq_false (by omega)
    clear hm2
    go_wp2_with fail
    refine (HLen.out w3 HS3.out).mono ?_
    rintro e w4 ⟨rfl, rfl⟩
    go_wp2_with fail
    go_loopw [10] (fun kv w' => ∃ k : Nat, k ≤ m ∧ kv = .int .i64 k ∧ w3 = w') (fun kv _ => m - (intOf kv).toNat)
    case atStart => exact ⟨0, Nat.zero_le _, rfl, rfl⟩
    case round =>
      obtain ⟨k, hk, rfl, rfl⟩ := hrel
      by_cases hlt : k < m
      · have hki : (k : Int) < (m : Int) := by omega
        have HT := Aside0.mk (text_calls w3 g l HS3.out k (by have := HM.out; omega))
        have HK := Aside0.mk (HSp.out k hlt)
        rw [← bs_data (l.getD k [])] at HK
        generalize bs (l.getD k []) = s at *
        go_wp2_with fail
        refine (HLen.out w3 HS3.out).mono ?_
        rintro e w4 ⟨rfl, rfl⟩
        go_wp2_with fail
        refine HT.out.mono ?_
        rintro e w4 ⟨rfl, rfl⟩
        by_cases hps : p.size ≤ s.size
        · have HE := Aside0.mk (ext_begins s p hps)
          cases hq : begins s.data.toList p.data.toList
          case true =>
            rw [hq] at HE HK
            have hlk := HK.out.1 rfl
            have hE := HE.out
            have hd1 : lo ≤ k := by omega
            have hd2 : k < hi := by omega
            clear hq HE hlk
            go_wp2_with fail
            go_roundw
            case rel => exact ⟨k + 1, by omega, by go_num, trivial⟩
            case measure => simp [intOf]; omega
          case false =>
            rw [hq] at HE HK
            have hlk := mt HK.out.2 (by decide)
            have hE := HE.out
            clear hq HE
            by_cases h1 : lo ≤ k
            · have hd1 : lo ≤ k := by omega
              have hd2 : hi ≤ k := by omega
              clear hlk h1
              go_wp2_with fail
              go_roundw
              case rel => exact ⟨k + 1, by omega, by go_num, trivial⟩
              case measure => simp [intOf]; omega
            · have hd1 : k < lo := by omega
              clear hlk h1
              go_wp2_with fail
              go_roundw
              case rel => exact ⟨k + 1, by omega, by go_num, trivial⟩
              case measure => simp [intOf]; omega
        · have hq := far_begins s p (by omega)
          rw [hq] at HK
          have hlk := mt HK.out.2 (by decide)
          have hd0 : s.size < p.size := by omega
          clear hq hps
          by_cases h1 : lo ≤ k
          · have hd1 : lo ≤ k := by omega
            have hd2 : hi ≤ k := by omega
            clear hlk h1
            go_wp2_with fail
            go_roundw
            case rel => exact ⟨k + 1, by omega, by go_num, trivial⟩
            case measure => simp [intOf]; omega
          · have hd1 : k < lo := by omega
            clear hlk h1
            go_wp2_with fail
            go_roundw
            case rel => exact ⟨k + 1, by omega, by go_num, trivial⟩
            case measure => simp [intOf]; omega
      · obtain rfl : k = m := by omega
        go_wp2_with fail
        refine (HLen.out w3 HS3.out).mono ?_
        rintro e w4 ⟨rfl, rfl⟩
        go_wp2_with fail
        go_ret
        exact ⟨rfl, HB3.out⟩
set_option maxRecDepth 100000 in
theorem lifted (os : Os) (started : os.Started) (H : Type) (enc : TypeId × Value → H) :
    ReturnsInHanded {} Try.checked os 6 .any (Rows.dictBeginsSpec.pre6 enc Try.prog Try.f6 Rows.dictBeginsRow.domain false) (Rows.dictBeginsSpec.post enc Try.prog Try.f6 false true false false) := by
  refine returnsInHanded_of_change_sized (C := Try.checked) own started (by kernel_rfl) Try.func6
    (ChangeSpec.witness6 (enc := enc) (C := Try.checked) false ⟨#[], #[.slice none 0 0, .string .empty], []⟩ 8 (by kernel_rfl) (by kernel_rfl) (by kernel_rfl) (by kernel_rfl)) ?_
  intro W base args ds gs before hval0 hW hcnd hsz _
  have hval : ∀ (j : Nat) t v, Try.f6.params[j]? = some t → args[j]? = some v → Value.okWide Try.prog W .any base t v := hval0
  have hW' := hW
  obtain ⟨p, q, hA0, hV, rfl, hfz, hnd⟩ := hW
  have hA : DataW.TrodAll enc Try.prog W 0 (fun _ => true) true Try.f6.params.toList args.toList ds p := hA0
  rw [Try.params6] at hA hval
  obtain ⟨v0, vs0, d0, ds0, p0, q0, hargs, rfl, rfl, h0, r0⟩ := trodAll_cons hA
  obtain ⟨v1, vs1, d1, ds1, p1, q1, rfl, rfl, rfl, h1, r1⟩ := trodAll_cons r0
  obtain ⟨rfl, rfl, rfl⟩ := trodAll_nil r1
  obtain rfl : args = #[v0, v1] := by cases args; simp_all
  obtain ⟨rfl, rfl⟩ := trodVars_none hV
  have k0 := h0
  have lt0 : ∀ x ∈ p0, x.block < W.heap.size := by obtain ⟨m, hm⟩ := k0; exact DataW.trod_lt m _ _ _ hm
  obtain ⟨a0, len0, cap0, rfl⟩ := okWide_slice Try.underlying22 (hval 0 22 v0 rfl rfl)
  obtain ⟨xs0, hl0, hC0, hD0⟩ := open_texts Try.underlying22 Try.underlying9 (by kernel_rfl) h0
  have hm0 := texts_sized (P := Try.prog) (e := 9) hD0 (by kernel_rfl) (fun el sp e => sized_slice hsz (j := 0) rfl (by rw [e]; rfl) Try.underlying22)
  have k1 := h1
  have lt1 : ∀ x ∈ p1, x.block < W.heap.size := by obtain ⟨m, hm⟩ := k1; exact DataW.trod_lt m _ _ _ hm
  obtain ⟨a1, rfl, d_eq1, _, w1⟩ := open_string Try.underlying9 (hval 1 9 v1 rfl rfl) h1
  clear hA0 hval0
  refine (walk xs0 a0 len0 cap0 a1 W hC0 hm0).mono fun e W' ⟨he, bel⟩ => ?_
  subst he
  exact ⟨_, rfl, _, _, _, [], _, [], hW', trodAll_mk1 (shut_bool Try.underlying4 _), (trodAll_cons_mk (Below.trod laidOut (by kernel_rfl) (of_decide_eq_true (by kernel_rfl)) k0 bel lt0) (trodAll_cons_mk (Below.trod laidOut (by kernel_rfl) (of_decide_eq_true (by kernel_rfl)) k1 bel lt1) trodAll_mk0)), rfl, bel.frame _, fun h => by cases h⟩

/-- The law. -/
theorem proved : Rows.DictBeginsSaid :=
  OpenClaim.holds_of_wide 6 Try.f6 rfl rfl rfl rfl rfl rfl rfl ⟨rfl, rfl, rfl, rfl, rfl⟩ rfl rfl rfl rfl rfl (by kernel_rfl) Try.func6 (by kernel_rfl)
    (of_decide_eq_true (by kernel_rfl)) (by unfold Func.isWrapper; first | (rw [if_pos (by decide +kernel)]; kernel_rfl) | (rw [if_neg (by decide +kernel)]; exact ⟨rfl, rfl⟩))
    (fun os started H enc _ => lifted os started H enc)
end Go.Proofs.Ytomgfhapmhagnaa.dictBegins
