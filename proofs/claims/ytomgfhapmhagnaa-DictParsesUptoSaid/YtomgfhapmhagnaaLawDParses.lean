/-
  Proved: any bytes are the dictionary that the document says, or refused (the law DictParses), up to the bulk of the second form.
-/
import Derived.Test.YtomgfhapmhagnaaRows
import Derived.Test.YtomgfhapmhagnaaTells
import Derived.Test.YtomgfhapmhagnaaRefParse
import Derived.Test.YtomgfhapmhagnaaOpenS
import Derived.Test.YtomgfhapmhagnaaBulk
import Derived.ProofKit
import Derived.OpenShut
import Derived.ShutString
import Derived.ChangeOld
namespace Go.Proofs.Ytomgfhapmhagnaa.dictParses
set_option linter.unusedVariables false
set_option linter.unusedSimpArgs false
open Go.RowKit Go.Proofs.YtomgfhapmhagnaaW.PrintWords Go.Proofs.Ytomgfhapmhagnaa.Lib
open Go.ChangeShapes Go.WideShapes Go.ChangeAt
open Go.ChangeMaps (open_string shut_string)
theorem own : ownKnob Try.prog.godebug = none := by kernel_rfl
theorem laidOut : laidOutB Try.prog = true := by kernel_rfl
open Go.Proofs.Ytomgfhapmhagnaa.Txt Go.Proofs.YtomgfhapmhagnaaW.PrintLast Go.Proofs.YtomgfhapmhagnaaW.PrintMore

set_option maxRecDepth 100000 in
set_option maxHeartbeats 1600000 in
theorem walk (b : List Int) (asks : List T) (A : Option Addr) (n c : Nat) (A2 : Option Addr) (n2 c2 : Nat) (w : World) (hC : Kd.C (Kd.int .u8) w A n b) (hc : n ≤ c) (hb : Bytes b) (hn : n ≤ 4194304) (hC2 : text.C w A2 n2 asks) :
    Calls Try.prog 7 #[.slice A n c, .slice A2 n2 c2] w fun e w' => e = .returned (.bool true) ∧ Below w.heap.size w w' := by
  have HC := Aside0.mk hC
  have HC2 := Aside0.mk hC2
  have HPa := Aside0.mk (fun w (h : Kd.C (Kd.int .u8) w A n b) => parse_calls b A n c w h hc hb hn)
  have HPb := Aside0.mk (fun w (h : Kd.C (Kd.int .u8) w A n b) => refparse_calls b A n c w h hc hb hn)
  rw [parse_same] at HPa
  have HFit := Aside0.mk (fun (e : Int) (l : List T) (h : parseR b = (e, some l)) => parseR_fit h)
  have HErr := Aside0.mk (show ∀ e, parseR b = (e, none) → e ≠ 0 by
    intro e h
    unfold parseR at h
    split at h
    · rename_i h1
      injection h with h _
      rw [← h]; exact h1
    · split at h
      · cases h
      · injection h with h _
        rw [← h]; decide)
  generalize parseR b = r at *
  clear hC hC2 hb
  go_enter Try.func7, Try.ntmps7
  go_wp2_with fail
  refine (awake_calls w).mono ?_
  rintro e w1 ⟨rfl, hb⟩
  have HB1 := Aside0.mk hb
  have HP1 := Aside0.mk (HPa.out w1 (Kd.C_below HC.out hb))
  clear hb HPa
  go_wp2_with fail
  obtain ⟨re, ro⟩ := r
  refine HP1.out.mono ?_
  cases ro with
  | none =>
    rintro e w2 ⟨hp, hb⟩
    obtain rfl : e = .returned (.tuple #[.pointer none, .int .i64 re]) := hp
    have HB2 := Aside0.mk (below_then HB1.out HB1.out.size hb)
    have HP2 := Aside0.mk (HPb.out w2 (Kd.C_below HC.out HB2.out))
    have hne := HErr.out re rfl
    have hn1 : (re != 0) = true := by rw [bne_iff_ne]; exact hne
    have hn2 : (re != re) = false := by simp
    clear hb HPb HErr HFit hne
    go_wp2_with fail
    refine HP2.out.mono ?_
    rintro e w3 ⟨⟨v, rfl, hr⟩, hb⟩
    have HB3 := Aside0.mk (below_then HB2.out HB2.out.size hb)
    clear hr hb HP2
    go_wp2_with fail
    go_ret
    exact ⟨rfl, HB3.out⟩
  | some l =>
    rintro e w2 ⟨hp, hb⟩
    obtain ⟨g, rfl, hg, hs⟩ : ∃ g, e = .returned (.tuple #[.pointer (some ⟨g, 0, none⟩), .int .i64 0]) ∧ w1.heap.size ≤ g ∧ DictAt w2 g l := hp
    have HB2 := Aside0.mk (below_then HB1.out HB1.out.size hb)
    have HP2 := Aside0.mk (HPb.out w2 (Kd.C_below HC.out HB2.out))
    obtain ⟨rfl, hr, hl, ht⟩ := HFit.out _ _ rfl
    have HS2 := Aside0.mk hs
    have HT := Aside0.mk (fun A1 c1 w (hs : DictAt w g l) (h1 : text.C w A1 l.length l) (h2 : text.C w A2 n2 asks) => tells_calls l asks [] g A1 c1 A2 n2 c2 none 0 0 w hs hr hl ht h1 h2 (Kd.C_nil _ _))
    clear hb HPb HErr HFit hs hl ht hr hg
    go_wp2_with fail
    refine HP2.out.mono ?_
    rintro e w3 ⟨⟨v, rfl, hr⟩, hb⟩
    have HB3 := Aside0.mk (below_then HB2.out HB2.out.size hb)
    have HS3 := Aside0.mk (HS2.out.below hb)
    obtain ⟨A1, c1, rfl, hc1, hC1⟩ := Kd.R_reads hr
    have HC1' := Aside0.mk (show text.C w3 A1 l.length l from hC1)
    clear hr hb HP2 hC1
    go_wp2_with fail
    refine (HT.out A1 c1 w3 HS3.out HC1'.out (Kd.C_below HC2.out HB3.out)).mono ?_
    rintro e w4 ⟨rfl, hb⟩
    have HB4 := Aside0.mk (below_then HB3.out HB3.out.size hb)
    clear hb
    go_wp2_with fail
    go_ret
    exact ⟨rfl, HB4.out⟩
set_option maxRecDepth 100000 in
theorem contract (H : Type) (enc : TypeId × Value → H) (W : World) (base : Nat) (args : Array Value) (ds gs : List (DataW H)) (before : List MemPlace)
    (hval : ∀ (j : Nat) t v, Try.f7.params[j]? = some t → args[j]? = some v → Value.okWide Try.prog W .any base t v)
    (hW : DataW.Whole enc Try.prog Try.f7.params.toList Rows.dictParsesSpec.vars false W args.toList ds gs before) (hk : Rows.uptoSmall H (ds ++ gs) = true) :
    Calls Try.prog 7 args W fun e W' => ∃ v, e = .returned v ∧ Rows.dictParsesSpec.post enc Try.prog Try.f7 false true false false W args v W' := by
  have hW' := hW
  obtain ⟨p, q, hA0, hV, rfl, hfz, hnd⟩ := hW
  have hA : DataW.TrodAll enc Try.prog W 0 (fun _ => true) true Try.f7.params.toList args.toList ds p := hA0
  rw [Try.params7] at hA hval
  obtain ⟨v0, vs0, d0, ds0, p0, q0, hargs, rfl, rfl, h0, r0⟩ := trodAll_cons hA
  obtain ⟨v1, vs1, d1, ds1, p1, q1, rfl, rfl, rfl, h1, r1⟩ := trodAll_cons r0
  obtain ⟨rfl, rfl, rfl⟩ := trodAll_nil r1
  obtain rfl : args = #[v0, v1] := by cases args; simp_all
  obtain ⟨rfl, rfl⟩ := trodVars_none hV
  have hbulk := of_decide_eq_true hk
  have k0 := h0
  have lt0 : ∀ x ∈ p0, x.block < W.heap.size := by obtain ⟨m, hm⟩ := k0; exact DataW.trod_lt m _ _ _ hm
  obtain ⟨a0, len0, cap0, rfl⟩ := okWide_slice Try.underlying43 (hval 0 43 v0 rfl rfl)
  obtain ⟨xs0, hl0, hC0, hb0⟩ := open_bytes Try.underlying43 Try.underlying5 (by kernel_rfl) h0
  have k1 := h1
  have lt1 : ∀ x ∈ p1, x.block < W.heap.size := by obtain ⟨m, hm⟩ := k1; exact DataW.trod_lt m _ _ _ hm
  obtain ⟨a1, len1, cap1, rfl⟩ := okWide_slice Try.underlying22 (hval 1 22 v1 rfl rfl)
  obtain ⟨xs1, hl1, hC1, hD1⟩ := open_texts Try.underlying22 Try.underlying9 (by kernel_rfl) h1
  clear hA0
  refine (walk xs0 xs1 a0 len0 cap0 a1 len1 cap1 W hC0 hl0 hb0 (by
    have b0 := bulk_nums Try.underlying43 Try.underlying5 (by kernel_rfl) k0
    simp only [List.append_nil, bulk_cons, bulk_nil] at hbulk
    omega) hC1).mono fun e W' ⟨he, bel⟩ => ?_
  subst he
  exact ⟨_, rfl, _, _, _, [], _, [], hW', trodAll_mk1 (shut_bool Try.underlying4 _), (trodAll_cons_mk (Below.trod laidOut (by kernel_rfl) (of_decide_eq_true (by kernel_rfl)) k0 bel lt0) (trodAll_cons_mk (Below.trod laidOut (by kernel_rfl) (of_decide_eq_true (by kernel_rfl)) k1 bel lt1) trodAll_mk0)), rfl, bel.frame _, fun h => by cases h⟩

set_option maxRecDepth 100000 in
theorem lifted (os : Os) (started : os.Started) (H : Type) (enc : TypeId × Value → H) (F : Stop.Interp) :
    ReturnsInHanded {} Try.checked os 7 .any ((Rows.OpenSpec.upto Rows.dictParsesSpec).pre6 enc Try.prog Try.f7 Rows.dictParsesUptoRow.domain false) (((Rows.OpenSpec.upto Rows.dictParsesSpec).at F).post enc Try.prog Try.f7 false true false false) := by
  refine returnsInHanded_of_cond (C := Try.checked) (s := Rows.OpenSpec.upto Rows.dictParsesSpec) (k := Rows.uptoSmall) rfl own started (by kernel_rfl) Try.func7
    (OpenSpec.witness (enc := enc) (C := Try.checked) (s := Rows.OpenSpec.upto Rows.dictParsesSpec) (k := Rows.uptoSmall) rfl false ⟨#[], #[.slice none 0 0, .slice none 0 0], []⟩ 8 (by kernel_rfl) (by kernel_rfl) (by kernel_rfl)
      (x := ([.nil, .nil], [], [])) (by kernel_rfl) rfl (by kernel_rfl)) ?_
  intro W base args ds gs before hval hW _ hk _
  exact contract H enc W base args ds gs before hval hW hk

/-- The law. -/
theorem proved : Rows.DictParsesUptoSaid :=
  OpenClaim.holds_of_cond 7 Try.f7 rfl rfl rfl rfl rfl rfl rfl ⟨rfl, rfl, rfl, rfl, rfl⟩ rfl rfl rfl rfl rfl (by kernel_rfl) Try.func7 (by kernel_rfl)
    (of_decide_eq_true (by kernel_rfl)) (by unfold Func.isWrapper; first | (rw [if_pos (by decide +kernel)]; kernel_rfl) | (rw [if_neg (by decide +kernel)]; exact ⟨rfl, rfl⟩))
    (fun os started H enc _ F => lifted os started H enc F)
end Go.Proofs.Ytomgfhapmhagnaa.dictParses
