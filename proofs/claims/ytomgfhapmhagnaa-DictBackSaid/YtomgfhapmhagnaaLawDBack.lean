/-
  Proved: what is written is read as it was (the law DictBack); no condition.
-/
import Derived.Test.YtomgfhapmhagnaaRows
import Derived.Test.YtomgfhapmhagnaaDictW
import Derived.Test.YtomgfhapmhagnaaDictP
import Derived.Test.YtomgfhapmhagnaaOpenS
import Derived.ProofKit
import Derived.OpenShut
import Derived.ShutString
import Derived.ChangeOld
namespace Go.Proofs.Ytomgfhapmhagnaa.dictBack
set_option linter.unusedVariables false
set_option linter.unusedSimpArgs false
open Go.RowKit Go.Proofs.YtomgfhapmhagnaaW.PrintWords Go.Proofs.Ytomgfhapmhagnaa.Lib
open Go.ChangeShapes Go.WideShapes Go.ChangeAt
open Go.ChangeMaps (open_string shut_string)
theorem own : ownKnob Try.prog.godebug = none := by kernel_rfl
theorem laidOut : laidOutB Try.prog = true := by kernel_rfl
open Go.Proofs.Ytomgfhapmhagnaa.Txt Go.Proofs.YtomgfhapmhagnaaW.PrintLast Go.Proofs.YtomgfhapmhagnaaW.PrintMore

theorem dict_len (l : List T) (hl : l.length ≤ 4096) (ht : ∀ t ∈ l, t.length ≤ 64) : (dictBytes l).length ≤ 400000 := by
  have h1 := encAll_le [] l ht
  have h2 := Go.Proofs.Ytomgfhapmhagnaa.Lib.varint_le10 (n := l.length) (by omega)
  unfold dictBytes
  rw [List.length_append]
  omega

set_option maxRecDepth 100000 in
set_option maxHeartbeats 1600000 in
theorem walk (ts : List T) (A : Option Addr) (n c : Nat) (w : World) (hC : text.C w A n ts) (hm : n * 16 ≤ 140737488355328) :
    Calls Try.prog 8 #[.slice A n c] w fun e w' => e = .returned (.bool true) ∧ Below w.heap.size w w' := by
  have HC := Aside0.mk hC
  have HL := Aside0.mk (show ts.length * 16 ≤ 140737488355328 by rw [show ts.length = n from hC.1]; exact hm)
  clear hC
  go_enter Try.func8, Try.ntmps8
  go_wp2_with fail
  refine (awake_calls w).mono ?_
  rintro e w1 ⟨rfl, hb⟩
  have HB1 := Aside0.mk hb
  have HC1 := Aside0.mk (Kd.C_below HC.out hb)
  clear hb
  go_wp2_with fail
  refine (build_calls ts A n c w1 HC1.out HL.out).mono ?_
  cases hbu : build ts
  case none =>
    rintro e w2 ⟨rfl, hb⟩
    have HB2 := Aside0.mk (below_then HB1.out HB1.out.size hb)
    clear hb hbu
    go_wp2_with fail
    go_ret
    exact ⟨rfl, HB2.out⟩
  case some l =>
    rintro e w2 ⟨⟨g, rfl, hg, hs⟩, hb⟩
    have HB2 := Aside0.mk (below_then HB1.out HB1.out.size hb)
    have HS2 := Aside0.mk hs
    obtain ⟨-, hl, ht, hr⟩ := build_fit hbu
    have HDl := Aside0.mk (dict_len l hl ht)
    have HPB := Aside0.mk (parse_back hr hl ht)
    have HBy := Aside0.mk (bytes_calls w2 g l hs hl ht)
    have HDb := Aside0.mk (dictBytes_bytes l)
    generalize dictBytes l = D at *
    clear hb hbu hs hg ht hr
    go_wp2_with fail
    refine HBy.out.mono ?_
    rintro e w3 ⟨v, rfl, ho, hb⟩
    obtain ⟨A3, c3, rfl, hc3, hC3⟩ := Kd.R_reads ho
    have HB3 := Aside0.mk (below_then HB2.out HB2.out.size hb)
    have HS3 := Aside0.mk (HS2.out.below hb)
    have HPa := Aside0.mk (parse_calls D A3 D.length c3 w3 hC3 hc3 HDb.out (by have := HDl.out; omega))
    rw [HPB.out] at HPa
    clear ho hb hc3 hC3 HBy HS2 HPB
    go_wp2_with fail
    refine HPa.out.mono ?_
    rintro e w4 ⟨⟨g2, rfl, hg2, hs2⟩, hb⟩
    have HB4 := Aside0.mk (below_then HB3.out HB3.out.size hb)
    have HS4 := Aside0.mk (HS3.out.below hb)
    have HK4 := Aside0.mk hs2
    have HLen := Aside0.mk (fun w g (h : DictAt w g l) => len_calls w g l h)
    have HTx := Aside0.mk (fun w g (h : DictAt w g l) i (hi : i < l.length) => text_calls w g l h i hi)
    obtain ⟨m, hm2⟩ : ∃ m, l.length = m := ⟨_, rfl⟩
    simp only [hm2] at HLen HTx hl
    clear hb hs2 hg2 HPa HS3 hm2
    have hmm : ((m : Int) != (m : Int)) = false := by simp
    go_wp2_with fail
    refine (HLen.out w4 g2 HK4.out).mono ?_
    rintro e w5 ⟨rfl, rfl⟩
    go_wp2_with fail
    refine (HLen.out w4 g HS4.out).mono ?_
    rintro e w5 ⟨rfl, rfl⟩
    go_wp2_with fail
    go_loopw [8] (fun kv w' => ∃ k : Nat, k ≤ m ∧ kv = .int .i64 k ∧ w4 = w') (fun kv _ => m - (intOf kv).toNat)
    case atStart => exact ⟨0, Nat.zero_le _, rfl, rfl⟩
    case round =>
      obtain ⟨k, hk, rfl, rfl⟩ := hrel
      by_cases hlt : k < m
      · have hki : (k : Int) < (m : Int) := by omega
        have HT := Aside0.mk (HTx.out w4 g HS4.out k hlt)
        have HT2 := Aside0.mk (HTx.out w4 g2 HK4.out k hlt)
        generalize bs (l.getD k []) = s at *
        go_wp2_with fail
        refine (HLen.out w4 g HS4.out).mono ?_
        rintro e w5 ⟨rfl, rfl⟩
        go_wp2_with fail
        refine HT.out.mono ?_
        rintro e w5 ⟨rfl, rfl⟩
        go_wp2_with fail
        refine HT2.out.mono ?_
        rintro e w5 ⟨rfl, rfl⟩
        go_wp2_with fail
        go_roundw
        case rel => exact ⟨k + 1, by omega, by go_num, trivial⟩
        case measure => simp [intOf]; omega
      · have e : m = k := by omega
        subst e
        go_wp2_with fail
        refine (HLen.out w4 g HS4.out).mono ?_
        rintro e w5 ⟨rfl, rfl⟩
        go_wp2_with fail
        go_ret
        exact ⟨rfl, HB4.out⟩
set_option maxRecDepth 100000 in
theorem lifted (os : Os) (started : os.Started) (H : Type) (enc : TypeId × Value → H) :
    ReturnsInHanded {} Try.checked os 8 .any (Rows.dictBackSpec.pre6 enc Try.prog Try.f8 Rows.dictBackRow.domain false) (Rows.dictBackSpec.post enc Try.prog Try.f8 false true false false) := by
  refine returnsInHanded_of_change_sized (C := Try.checked) own started (by kernel_rfl) Try.func8
    (ChangeSpec.witness6 (enc := enc) (C := Try.checked) false ⟨#[], #[.slice none 0 0], []⟩ 8 (by kernel_rfl) (by kernel_rfl) (by kernel_rfl) (by kernel_rfl)) ?_
  intro W base args ds gs before hval0 hW hcnd hsz _
  have hval : ∀ (j : Nat) t v, Try.f8.params[j]? = some t → args[j]? = some v → Value.okWide Try.prog W .any base t v := hval0
  have hW' := hW
  obtain ⟨p, q, hA0, hV, rfl, hfz, hnd⟩ := hW
  have hA : DataW.TrodAll enc Try.prog W 0 (fun _ => true) true Try.f8.params.toList args.toList ds p := hA0
  rw [Try.params8] at hA hval
  obtain ⟨v0, vs0, d0, ds0, p0, q0, hargs, rfl, rfl, h0, r0⟩ := trodAll_cons hA
  obtain ⟨rfl, rfl, rfl⟩ := trodAll_nil r0
  obtain rfl : args = #[v0] := by cases args; simp_all
  obtain ⟨rfl, rfl⟩ := trodVars_none hV
  have k0 := h0
  have lt0 : ∀ x ∈ p0, x.block < W.heap.size := by obtain ⟨m, hm⟩ := k0; exact DataW.trod_lt m _ _ _ hm
  obtain ⟨a0, len0, cap0, rfl⟩ := okWide_slice Try.underlying22 (hval 0 22 v0 rfl rfl)
  obtain ⟨xs0, hl0, hC0, hD0⟩ := open_texts Try.underlying22 Try.underlying9 (by kernel_rfl) h0
  have hs0 := texts_sized_lt (P := Try.prog) (e := 9) hD0 (by kernel_rfl) (fun el sp e => sized_slice hsz (j := 0) rfl (by rw [e]; rfl) Try.underlying22)
  have hm0 := Nat.le_of_lt hs0
  clear hA0 hval0
  refine (walk xs0 a0 len0 cap0 W hC0 hm0).mono fun e W' ⟨he, bel⟩ => ?_
  subst he
  exact ⟨_, rfl, _, _, _, [], _, [], hW', trodAll_mk1 (shut_bool Try.underlying4 _), (trodAll_cons_mk (Below.trod laidOut (by kernel_rfl) (of_decide_eq_true (by kernel_rfl)) k0 bel lt0) trodAll_mk0), rfl, bel.frame _, fun h => by cases h⟩

/-- The law. -/
theorem proved : Rows.DictBackSaid :=
  OpenClaim.holds_of_wide 8 Try.f8 rfl rfl rfl rfl rfl rfl rfl ⟨rfl, rfl, rfl, rfl, rfl⟩ rfl rfl rfl rfl rfl (by kernel_rfl) Try.func8 (by kernel_rfl)
    (of_decide_eq_true (by kernel_rfl)) (by unfold Func.isWrapper; first | (rw [if_pos (by decide +kernel)]; kernel_rfl) | (rw [if_neg (by decide +kernel)]; exact ⟨rfl, rfl⟩))
    (fun os started H enc _ => lifted os started H enc)
end Go.Proofs.Ytomgfhapmhagnaa.dictBack
