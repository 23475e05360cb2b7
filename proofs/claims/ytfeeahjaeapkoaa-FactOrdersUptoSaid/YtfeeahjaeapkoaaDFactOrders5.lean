/- Texts of this repo, joined, without what this claim does not use: LawFactOrders. -/
import Derived.Test.YtfeeahjaeapkoaaDFactOrders1
import Derived.Test.YtfeeahjaeapkoaaDFactOrders2
import Derived.Test.YtfeeahjaeapkoaaDFactOrders3
import Derived.Test.YtfeeahjaeapkoaaDFactOrders4
import Derived.Test.YtfeeahjaeapkoaaRows
import Derived.ProofKit
import Derived.OpenShut
section
namespace Go.Proofs.Ytfeeahjaeapkoaa.factOrders
set_option linter.unusedVariables false
set_option linter.unusedSimpArgs false
open Go.RowKit Go.Proofs.YtfeeahjaeapkoaaW.PrintWords Go.Proofs.Ytfeeahjaeapkoaa.Lib
open Go.ChangeShapes Go.WideShapes Go.ChangeAt
open Go.ChangeMaps (open_string shut_string)
theorem own : ownKnob Try.prog.godebug = none := by kernel_rfl
theorem laidOut : laidOutB Try.prog = true := by kernel_rfl
open Go.Proofs.Ytfeeahjaeapkoaa.P Go.Proofs.Ytfeeahjaeapkoaa.Ext
theorem all_small {l : List S27} (h : ∀ x ∈ l, x.f1.length ≤ 8796093022208 ∧ x.f2.length ≤ 17592186044416) : l.all small27 = true := List.all_eq_true.2 fun x hx => by
  unfold small27
  rw [decide_eq_true (h x hx).1, decide_eq_true (h x hx).2]
  rfl
set_option maxRecDepth 100000 in
theorem contract (H : Type) (enc : TypeId × Value → H) (W : World) (base : Nat) (args : Array Value) (ds gs : List (DataW H)) (before : List MemPlace)
    (hval : ∀ (j : Nat) t v, Try.f4.params[j]? = some t → args[j]? = some v → Value.okWide Try.prog W .any base t v)
    (hW : DataW.Whole enc Try.prog Try.f4.params.toList Rows.factOrdersSpec.vars false W args.toList ds gs before) (hk : Rows.uptoSmall H (ds ++ gs) = true) :
    Calls Try.prog 4 args W fun e W' => ∃ v, e = .returned v ∧ Rows.factOrdersSpec.post enc Try.prog Try.f4 false true false false W args v W' := by
  have hsz := upto_sized bytesB (by decide) (by decide) hk (Try.f4.params.toList) (by kernel_rfl)
  have hW' := hW
  obtain ⟨p, q, hA0, hV, rfl, hfz, hnd⟩ := hW
  have hA : DataW.TrodAll enc Try.prog W 0 (fun _ => true) true Try.f4.params.toList args.toList ds p := hA0
  rw [Try.params4] at hA hval
  obtain ⟨v0, vs0, d0, ds0, p0, q0, hargs, rfl, rfl, h0, r0⟩ := trodAll_cons hA
  obtain ⟨v1, vs1, d1, ds1, p1, q1, rfl, rfl, rfl, h1, r1⟩ := trodAll_cons r0
  obtain ⟨v2, vs2, d2, ds2, p2, q2, rfl, rfl, rfl, h2, r2⟩ := trodAll_cons r1
  obtain ⟨v3, vs3, d3, ds3, p3, q3, rfl, rfl, rfl, h3, r3⟩ := trodAll_cons r2
  obtain ⟨rfl, rfl, rfl⟩ := trodAll_nil r3
  obtain rfl : args = #[v0, v1, v2, v3] := by cases args; simp_all
  obtain ⟨rfl, rfl⟩ := trodVars_none hV
  have hbulk := of_decide_eq_true hk
  have k0 := h0
  have lt0 : ∀ x ∈ p0, x.block < W.heap.size := by obtain ⟨m, hm⟩ := k0; exact DataW.trod_lt m _ _ _ hm
  obtain ⟨a0, cs0, rfl, hK0, hQ0⟩ := open_struct opens_s27 Try.underlying27 (hval 0 _ v0 rfl rfl) h0 hsz 0 rfl rfl
  obtain ⟨A0, c0, B0, e0, rfl, hl0, hC0, hm0, hD0⟩ := fact_open2 hK0
  have k1 := h1
  have lt1 : ∀ x ∈ p1, x.block < W.heap.size := by obtain ⟨m, hm⟩ := k1; exact DataW.trod_lt m _ _ _ hm
  obtain ⟨a1, cs1, rfl, hK1, hQ1⟩ := open_struct opens_s27 Try.underlying27 (hval 1 _ v1 rfl rfl) h1 hsz 1 rfl rfl
  obtain ⟨A1, c1, B1, e1, rfl, hl1, hC1, hm1, hD1⟩ := fact_open2 hK1
  have k2 := h2
  have lt2 : ∀ x ∈ p2, x.block < W.heap.size := by obtain ⟨m, hm⟩ := k2; exact DataW.trod_lt m _ _ _ hm
  obtain ⟨a2, cs2, rfl, hK2, hQ2⟩ := open_struct opens_s27 Try.underlying27 (hval 2 _ v2 rfl rfl) h2 hsz 2 rfl rfl
  obtain ⟨A2, c2, B2, e2, rfl, hl2, hC2, hm2, hD2⟩ := fact_open2 hK2
  have k3 := h3
  have lt3 : ∀ x ∈ p3, x.block < W.heap.size := by obtain ⟨m, hm⟩ := k3; exact DataW.trod_lt m _ _ _ hm
  obtain ⟨A3, l3, c3, rfl, hl3, hC3, hQ3, hb3⟩ := open_row opens_s27 Try.underlying35 (by kernel_rfl) (hval 3 _ v3 rfl rfl) h3 hsz 3 rfl rfl
  have hn3 := bulk_row Try.underlying35 h3
  have hlen : l3.length ≤ 1048576 := by simp only [List.cons_append, List.nil_append, bulk_cons] at hbulk; omega
  clear hA0
  refine (gristmilllaw04_FactOrders.calls 26388281163800 a0.f0 A0 c0 a0.f1 B0 e0 a0.f2 a1.f0 A1 c1 a1.f1 B1 e1 a1.f2 a2.f0 A2 c2 a2.f1 B2 e2 a2.f2 A3 c3 l3 true W hC0 hl0 hD0 hm0 hC1 hl1 hD1 hm1 hC2 hl2 hD2 hm2 hC3 hl3 (orders_true (a0.f0, a0.f1, a0.f2) (a1.f0, a1.f1, a1.f2) (a2.f0, a2.f1, a2.f2) l3 hQ0 hQ1 hlen (all_small hQ3) _ (Nat.le_refl _))).mono fun e W' ⟨he, bel⟩ => ?_
  subst he
  exact ⟨_, rfl, _, _, _, [], _, [], hW', trodAll_mk1 (shut_bool Try.underlying4 _), (trodAll_cons_mk (Below.trod laidOut (by kernel_rfl) (of_decide_eq_true (by kernel_rfl)) k0 bel lt0) (trodAll_cons_mk (Below.trod laidOut (by kernel_rfl) (of_decide_eq_true (by kernel_rfl)) k1 bel lt1) (trodAll_cons_mk (Below.trod laidOut (by kernel_rfl) (of_decide_eq_true (by kernel_rfl)) k2 bel lt2) (trodAll_cons_mk (Below.trod laidOut (by kernel_rfl) (of_decide_eq_true (by kernel_rfl)) k3 bel lt3) trodAll_mk0)))), rfl, bel.frame _, fun h => by cases h⟩
set_option maxRecDepth 100000 in
theorem lifted (os : Os) (started : os.Started) (H : Type) (enc : TypeId × Value → H) (F : Stop.Interp) :
    ReturnsInHanded {} Try.checked os 4 .any ((Rows.OpenSpec.upto Rows.factOrdersSpec).pre6 enc Try.prog Try.f4 Rows.factOrdersUptoRow.domain false) (((Rows.OpenSpec.upto Rows.factOrdersSpec).at F).post enc Try.prog Try.f4 false true false false) := by
  refine returnsInHanded_of_cond (C := Try.checked) (s := Rows.OpenSpec.upto Rows.factOrdersSpec) (k := Rows.uptoSmall) rfl own started (by kernel_rfl) Try.func4
    (OpenSpec.witness (enc := enc) (C := Try.checked) (s := Rows.OpenSpec.upto Rows.factOrdersSpec) (k := Rows.uptoSmall) rfl false ⟨#[], #[.agg #[.int .i64 0, .slice none 0 0, .slice none 0 0], .agg #[.int .i64 0, .slice none 0 0, .slice none 0 0], .agg #[.int .i64 0, .slice none 0 0, .slice none 0 0], .slice none 0 0], []⟩ 8 (by kernel_rfl) (by kernel_rfl) (by kernel_rfl)
      (x := ([.agg [.lit (.int .i64 0), .nil, .nil], .agg [.lit (.int .i64 0), .nil, .nil], .agg [.lit (.int .i64 0), .nil, .nil], .nil], [], [])) (by kernel_rfl) rfl (by kernel_rfl)) ?_
  intro W base args ds gs before hval hW _ hk _
  exact contract H enc W base args ds gs before hval hW hk
theorem proved : Rows.FactOrdersUptoSaid :=
  OpenClaim.holds_of_cond 4 Try.f4 rfl rfl rfl rfl rfl rfl rfl ⟨rfl, rfl, rfl, rfl, rfl⟩ rfl rfl rfl rfl rfl (by kernel_rfl) Try.func4 (by kernel_rfl)
    (of_decide_eq_true (by kernel_rfl)) (by unfold Func.isWrapper; first | (rw [if_pos (by decide +kernel)]; kernel_rfl) | (rw [if_neg (by decide +kernel)]; exact ⟨rfl, rfl⟩))
    (fun os started H enc _ F => lifted os started H enc F)
end Go.Proofs.Ytfeeahjaeapkoaa.factOrders
end
