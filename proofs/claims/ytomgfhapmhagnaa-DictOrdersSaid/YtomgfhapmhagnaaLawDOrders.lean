/-
  Proved: texts rise with their numbers; each text that was handed in has one; no other one has (the law DictOrders); no condition.
-/
import Derived.Test.YtomgfhapmhagnaaRows
import Derived.Test.YtomgfhapmhagnaaDictW
import Derived.Test.YtomgfhapmhagnaaOpenS
import Derived.ProofKit
import Derived.OpenShut
import Derived.ShutString
import Derived.ChangeOld
import Derived.Maps.Own
import Derived.Maps.OwnSet
import Derived.StringKeys
namespace Go.Proofs.Ytomgfhapmhagnaa.dictOrders
set_option linter.unusedVariables false
set_option linter.unusedSimpArgs false
open Go.RowKit Go.Proofs.YtomgfhapmhagnaaW.PrintWords Go.Proofs.Ytomgfhapmhagnaa.Lib
open Go.ChangeShapes Go.WideShapes Go.ChangeAt
open Go.ChangeMaps (open_string shut_string)
theorem own : ownKnob Try.prog.godebug = none := by kernel_rfl
theorem laidOut : laidOutB Try.prog = true := by kernel_rfl
open Go.Proofs.Ytomgfhapmhagnaa.Txt Go.Proofs.YtomgfhapmhagnaaW.PrintLast Go.Proofs.YtomgfhapmhagnaaW.PrintMore
open Go.Maps

/-! ### the texts that were met -/
def one {H : Type} : DataW H := .lit (.int .i64 1)
def met {H : Type} (ts : List T) : DataW H := ts.foldl (fun m t => m.put (.string t) one) (.map [])
theorem met_snoc {H : Type} (ts : List T) (t : T) : met (H := H) (ts ++ [t]) = (met ts).put (.string t) one := by
  unfold met
  rw [List.foldl_append]
  rfl
theorem built_in {ts : List T} {t : T} (h : t ∈ ts) : built (ts ++ [t]) = built ts :=
  rises_eq (built_rises _) (built_rises _) fun y => by
    rw [built_mem, built_mem, List.mem_append, List.mem_singleton]
    exact ⟨fun h2 => h2.elim id (fun e => e ▸ h), .inl⟩
theorem rises_nodup {l : List T} (h : l.Pairwise (· < ·)) : l.Nodup := h.imp fun {a b} hab e => by subst e; exact lt_irrefl _ hab
theorem built_out {ts : List T} {t : T} (h : t ∉ ts) : (built (ts ++ [t])).length = (built ts).length + 1 := by
  have h1 : (t :: built ts).Nodup := List.nodup_cons.2 ⟨by rw [built_mem]; exact h, rises_nodup (built_rises _)⟩
  have h2 : (built (ts ++ [t])).Perm (t :: built ts) := (List.perm_ext_iff_of_nodup (rises_nodup (built_rises _)) h1).2 fun y => by
    rw [built_mem, List.mem_append, List.mem_singleton, List.mem_cons, built_mem]
    exact Or.comm
  simpa using h2.length_eq
theorem met_is {H : Type} (ts : List T) : Tidy (met (H := H) ts) ∧ (∀ t, Maps.has (met (H := H) ts) (.string t) = decide (t ∈ ts)) ∧ Maps.size (met (H := H) ts) = (built ts).length := by
  suffices h : ∀ r : List T, Tidy (met (H := H) r.reverse) ∧ (∀ t, Maps.has (met (H := H) r.reverse) (.string t) = decide (t ∈ r.reverse)) ∧ Maps.size (met (H := H) r.reverse) = (built r.reverse).length by
    have := h ts.reverse
    rwa [List.reverse_reverse] at this
  intro r
  induction r with
  | nil =>
    refine ⟨tidy_empty, fun t => by simp [met, Maps.has], ?_⟩
    have := built_le []
    simp only [List.length_nil, Nat.le_zero] at this
    rw [List.reverse_nil, this]
    rfl
  | cons x r ih =>
    obtain ⟨h1, h2, h3⟩ := ih
    rw [List.reverse_cons, met_snoc]
    refine ⟨h1.put (show Go.WideAt.IsKeyLit (.string x) from trivial) _, fun t => ?_, ?_⟩
    · by_cases e : t = x
      · subst e
        rw [has_put_same h1.isMap (show Go.WideAt.IsKeyLit (.string t) from trivial)]
        simp
      · rw [has_put_other (by intro h; injection h with h; exact e h), h2]
        simp [e]
    · rw [size_put h1, h2, h3]
      by_cases hx : x ∈ r.reverse
      · rw [built_in hx]; simp [hx]
      · rw [built_out hx]; simp [hx]
theorem met_take {H : Type} (ts : List T) (k : Nat) (h : k < ts.length) : met (H := H) (ts.take (k + 1)) = (met (ts.take k)).put (.string (ts.getD k [])) one := by
  rw [List.take_succ_eq_append_getElem h, met_snoc, List.getD_eq_getElem?_getD, List.getElem?_eq_getElem h]
  rfl

theorem keyS : Keyed Try.prog 9 := string_keyed Try.underlying9
theorem zeroI (w : World) : (zeroValue 3).run Try.prog w = .ok (.int .i64 0) w := by kernel_rfl

set_option maxRecDepth 100000 in
set_option maxHeartbeats 3200000 in
theorem walk {H : Type} (ts : List T) (A : Option Addr) (n c : Nat) (o : ByteArray) (w : World) (hC : text.C w A n ts) (hm : n * 16 ≤ 140737488355328) (ho : o.size ≤ maxLen) :
    Calls Try.prog 4 #[.slice A n c, .string o] w fun e w' => e = .returned (.bool true) ∧ Below w.heap.size w w' := by
  have HC := Aside0.mk hC
  have HN := Aside0.mk (show ts.length = n from hC.1)
  have hn8 : n ≤ 9223372036854775806 := by omega
  have HL := Aside0.mk (show ts.length * 16 ≤ 140737488355328 by rw [show ts.length = n from hC.1]; exact hm)
  have HO := Aside0.mk ho
  have hmm := @run_makeMap Try.prog
  clear hC hm ho
  go_enter Try.func4, Try.ntmps4
  go_wp2_with fail
  refine (awake_calls w).mono ?_
  rintro e w1 ⟨rfl, hb⟩
  have HB1 := Aside0.mk hb
  have HC1 := Aside0.mk (Kd.C_below HC.out hb)
  clear hb
  go_wp2_with fail
  refine (build_calls ts A n c w1 HC1.out HL.out).mono ?_
  cases hbu : build ts
  case none =>
    rintro e w2 ⟨rfl, hb⟩
    have HB2 := Aside0.mk (below_then HB1.out HB1.out.size hb)
    clear hb hbu
    go_wp2_with fail
    go_ret
    exact ⟨rfl, HB2.out⟩
  case some l =>
    rintro e w2 ⟨⟨g, rfl, hg, hs⟩, hb⟩
    have HB2 := Aside0.mk (below_then HB1.out HB1.out.size hb)
    have HS2 := Aside0.mk hs
    have HC2 := Aside0.mk (Kd.C_below HC1.out hb)
    obtain ⟨hlb, hl, hsm, hr⟩ := build_fit hbu
    have HR := Aside0.mk hr
    have HSm := Aside0.mk hsm
    have HLb := Aside0.mk hlb
    have hl4 : l.length ≤ 4611686018427387904 := by omega
    clear hb hbu hs hg hr hsm hlb
    go_wp2_with fail
    have HM0 := Aside0.mk (World.ownsMap_made w2 Try.prog 9 (plainElem (H := H) Try.prog 3))
    have HBm := Aside0.mk (show Below w2.heap.size w2 (w2.alloc (.map #[] 0)) from (Below.refl _ _).alloc (Nat.le_refl _) _)
    go_loopw [9] (fun kv wr => ∃ k : Nat, k ≤ n ∧ kv = .int .i64 k ∧ Aside0 (wr.ownsMap Try.prog 9 (plainElem (H := H) Try.prog 3) w2.heap.size k (met (ts.take k))) ∧ Aside0 (Below w2.heap.size w2 wr)) (fun kv _ => n - (intOf kv).toNat)
    case atStart => exact ⟨0, Nat.zero_le _, rfl, ⟨by rw [List.take_zero]; exact HM0.out⟩, HBm⟩
    case round =>
      clear HM0 HBm
      obtain ⟨k, hk, rfl, HM, HB⟩ := hrel
      by_cases hlt : k < n
      · have hki : (k : Int) < (n : Int) := by omega
        obtain ⟨ad, e, hcell⟩ := at_text (Kd.C_below HC2.out HB.out) k hlt
        subst e
        have hkl : k < ts.length := by rw [HN.out]; exact hlt
        have HStep := Aside0.mk (met_take (H := H) ts k hkl)
        have hmem : ts.getD k [] ∈ l := by
          rw [HLb.out, built_mem, List.getD_eq_getElem?_getD, List.getElem?_eq_getElem hkl]
          exact List.getElem_mem _
        have hh := (has_iff HR.out _).2 hmem
        have hsz : (bs (ts.getD k [])).size ≤ maxLen := by
          have := HSm.out _ hmem
          rw [bs_size]
          have h2 : maxLen = 9223372036854775807 := rfl
          omega
        have hkey : keyOf Try.prog 9 (.string (bs (ts.getD k []))) = some (.string (ts.getD k [])) := Go.WideMaps.keyOf_string_mk Try.underlying9 hsz
        have HI := Aside0.mk (fun w (h : DictAt w g l) => id_calls w g l (bs (ts.getD k [])) h HR.out hl4)
        rw [bs_data, hh, if_pos rfl] at HI
        have hf := of_decide_eq_true (show decide (fromOf l (ts.getD k []) < l.length ∧ l.getD (fromOf l (ts.getD k [])) [] = ts.getD k []) = true from hh)
        have HT := Aside0.mk (fun w (h : DictAt w g l) => text_calls w g l h (fromOf l (ts.getD k [])) hf.1)
        rw [hf.2] at HT
        have HS3 := Aside0.mk (HS2.out.below HB.out)
        have HKey := Aside0.mk hkey
        clear hf hh hmem hsz hkl hkey
        generalize fromOf l (ts.getD k []) = j at *
        generalize ts.getD k [] = t at *
        generalize bs t = s at *
        go_wp2_with fail
        refine (HI.out _ HS3.out).mono ?_
        rintro e w4 ⟨rfl, hb⟩
        have hcell4 := pw_cell_below hb hcell
        have HM4 := Aside0.mk (HM.out.kept (grown_of_below hb none) (by simp))
        have HB4 := Aside0.mk (below_then HB.out HB.out.size hb)
        have HS4 := Aside0.mk (HS3.out.below hb)
        clear hb hcell HM HB HS3
        go_wp2_with fail
        refine (HT.out _ HS4.out).mono ?_
        rintro e w5 ⟨rfl, rfl⟩
        go_wp2_with (first
          | (at_mapUpdate; refine wpList_mapUpdate_own _ rfl _ _ _ 33 rfl 9 3 keyS Try.underlying33 _ w2.heap.size k _ rfl HM4.out (by unfold maxLen; omega) _ _ _ rfl rfl HKey.out _ [] (plainElem_int Try.underlying3 (by decide)) ?_; intro w6 hown6 hgrow6; have HM6 := Aside0.mk hown6; have HB6 := Aside0.mk (pw_below_grown HB4.out _ HB4.out.size hgrow6 (fun j hj => by cases hj; exact Nat.le_refl _)); clear hown6 hgrow6)
          | fail)
        go_roundw
        case rel => exact ⟨k + 1, by omega, by go_num, ⟨by rw [HStep.out]; exact HM6.out⟩, HB6⟩
        case measure => simp [intOf]; omega
      · obtain rfl : k = n := by omega
        have hfull : ts.take k = ts := by rw [← HN.out, List.take_length]
        rw [hfull] at HM
        have HS3 := Aside0.mk (HS2.out.below HB.out)
        have HB3 := Aside0.mk (below_then HB2.out HB2.out.size HB.out)
        obtain ⟨-, hhas, hsize⟩ := met_is (H := H) ts
        have HHas := Aside0.mk hhas
        rw [← HLb.out] at hsize
        clear hfull hhas hlt HB
        obtain ⟨m, hm2⟩ : ∃ m, l.length = m := ⟨_, rfl⟩
        have HLen := Aside0.mk (fun w (h : DictAt w g l) => len_calls w g l h)
        have HTx := Aside0.mk (fun (i : Nat) (h : i < l.length) => text_calls wr g l HS3.out i h)
        have HRise := Aside0.mk (fun (i j : Nat) (hij : i < j) (hj : j < l.length) => rises_at HR.out i j hij hj)
        rw [hm2] at HLen HTx HRise hsize hl
        have HSz := Aside0.mk hsize
        clear hm2 hsize
        go_wp2_with fail
        go_loopw [14] (fun kv w' => ∃ j : Nat, (j = 0 ∨ j < m) ∧ kv = .int .i64 ((j + 1 : Nat) : Int) ∧ wr = w') (fun kv _ => m - (intOf kv).toNat)
        case atStart => exact ⟨0, .inl rfl, rfl, (by first | trivial | rfl)⟩
        case round =>
          obtain ⟨j, hj, rfl, rfl⟩ := hrel
          have hjm : j ≤ 4096 := by omega
          by_cases hlt : j + 1 < m
          · have hji : ((j + 1 : Nat) : Int) < (m : Int) := by omega
            have hless : Op.bytesLess (bs (l.getD j [])).toList (bs (l.getD (j + 1) [])).toList = true := by
              rw [less_is, bs_data, bs_data]
              exact decide_eq_true (HRise.out j (j + 1) (by omega) hlt)
            have HT0 := Aside0.mk (HTx.out j (by omega))
            have HT1 := Aside0.mk (HTx.out (j + 1) hlt)
            generalize bs (l.getD j []) = s0 at *
            generalize bs (l.getD (j + 1) []) = s1 at *
            have hsub : ((j + 1 : Nat) : Int) - 1 = (j : Int) := by omega
            obtain ⟨j1, hj1⟩ : ∃ j1, j + 1 = j1 := ⟨_, rfl⟩
            rw [hj1] at hji HT1 hsub ⊢
            have hjb : j1 ≤ 4097 := by omega
            have HJ := Aside0.mk hj1
            clear hj1 hj
            go_wp2_with fail
            refine (HLen.out _ HS3.out).mono ?_
            rintro e w5 ⟨rfl, rfl⟩
            go_wp2_with fail
            refine HT0.out.mono ?_
            rintro e w5 ⟨rfl, rfl⟩
            go_wp2_with fail
            refine HT1.out.mono ?_
            rintro e w5 ⟨rfl, rfl⟩
            go_wp2_with fail
            go_roundw
            case rel => exact ⟨j1, .inr (by omega), by go_num, (by first | trivial | rfl)⟩
            case measure => have := HJ.out; simp [intOf]; omega
          · have hji : (m : Int) ≤ ((j + 1 : Nat) : Int) := by omega
            have HI := Aside0.mk (id_calls wr g l o HS3.out HR.out hl4)
            have hhas : decide (o.data.toList ∈ ts) = has l o.data.toList := by
              rw [Bool.eq_iff_iff, decide_eq_true_iff, has_iff HR.out, HLb.out, built_mem]
            have HH := Aside0.mk (show Maps.has (met (H := H) ts) (.string o.data.toList) = has l o.data.toList by rw [HHas.out, hhas])
            have HKey := Aside0.mk (Go.WideMaps.keyOf_string_mk (P := Try.prog) Try.underlying9 HO.out)
            clear hhas hlt hj hjm
            generalize has l o.data.toList = bo at *
            generalize (if bo = true then fromOf l o.data.toList else 0) = num at *
            obtain ⟨j1, hj1⟩ : ∃ j1, j + 1 = j1 := ⟨_, rfl⟩
            rw [hj1] at hji ⊢
            clear hj1
            go_wp2_with fail
            refine (HLen.out _ HS3.out).mono ?_
            rintro e w5 ⟨rfl, rfl⟩
            go_wp2_with fail
            refine HI.out.mono ?_
            rintro e w5 ⟨rfl, hb⟩
            have HM5 := Aside0.mk (HM.out.kept (grown_of_below hb none) (by simp))
            have hlen5 := HM5.out.len Try.underlying33 3
            rw [HSz.out] at hlen5
            have HS5 := Aside0.mk (HS3.out.below hb)
            have HB5 := Aside0.mk (below_then HB3.out HB3.out.size hb)
            clear hb
            go_wp2_with (first
              | (at_lookup; refine wpList_lookup_own_ok_int _ rfl _ _ 33 rfl 9 3 .i64 keyS Try.underlying33 Try.underlying3 (zeroI _) w2.heap.size k _ rfl HM5.out _ _ rfl HKey.out ?_; intro cv hat hwc; rw [HH.out]; clear hat hwc)
              | fail)
            refine (HLen.out _ HS5.out).mono ?_
            rintro e w6 ⟨rfl, rfl⟩
            go_wp2_with fail
            go_ret
            exact ⟨rfl, HB5.out⟩
set_option maxRecDepth 100000 in
theorem lifted (os : Os) (started : os.Started) (H : Type) (enc : TypeId × Value → H) :
    ReturnsInHanded {} Try.checked os 4 .any (Rows.dictOrdersSpec.pre6 enc Try.prog Try.f4 Rows.dictOrdersRow.domain false) (Rows.dictOrdersSpec.post enc Try.prog Try.f4 false true false false) := by
  refine returnsInHanded_of_change_sized (C := Try.checked) own started (by kernel_rfl) Try.func4
    (ChangeSpec.witness6 (enc := enc) (C := Try.checked) false ⟨#[], #[.slice none 0 0, .string .empty], []⟩ 8 (by kernel_rfl) (by kernel_rfl) (by kernel_rfl) (by kernel_rfl)) ?_
  intro W base args ds gs before hval0 hW hcnd hsz _
  have hval : ∀ (j : Nat) t v, Try.f4.params[j]? = some t → args[j]? = some v → Value.okWide Try.prog W .any base t v := hval0
  have hW' := hW
  obtain ⟨p, q, hA0, hV, rfl, hfz, hnd⟩ := hW
  have hA : DataW.TrodAll enc Try.prog W 0 (fun _ => true) true Try.f4.params.toList args.toList ds p := hA0
  rw [Try.params4] at hA hval
  obtain ⟨v0, vs0, d0, ds0, p0, q0, hargs, rfl, rfl, h0, r0⟩ := trodAll_cons hA
  obtain ⟨v1, vs1, d1, ds1, p1, q1, rfl, rfl, rfl, h1, r1⟩ := trodAll_cons r0
  obtain ⟨rfl, rfl, rfl⟩ := trodAll_nil r1
  obtain rfl : args = #[v0, v1] := by cases args; simp_all
  obtain ⟨rfl, rfl⟩ := trodVars_none hV
  have k0 := h0
  have lt0 : ∀ x ∈ p0, x.block < W.heap.size := by obtain ⟨m, hm⟩ := k0; exact DataW.trod_lt m _ _ _ hm
  obtain ⟨a0, len0, cap0, rfl⟩ := okWide_slice Try.underlying22 (hval 0 22 v0 rfl rfl)
  obtain ⟨xs0, hl0, hC0, hD0⟩ := open_texts Try.underlying22 Try.underlying9 (by kernel_rfl) h0
  have hm0 := texts_sized (P := Try.prog) (e := 9) hD0 (by kernel_rfl) (fun el sp e => sized_slice hsz (j := 0) rfl (by rw [e]; rfl) Try.underlying22)
  have k1 := h1
  have lt1 : ∀ x ∈ p1, x.block < W.heap.size := by obtain ⟨m, hm⟩ := k1; exact DataW.trod_lt m _ _ _ hm
  obtain ⟨a1, rfl, d_eq1, _, w1⟩ := open_string Try.underlying9 (hval 1 9 v1 rfl rfl) h1
  clear hA0 hval0
  refine (walk (H := H) xs0 a0 len0 cap0 a1 W hC0 hm0 w1).mono fun e W' ⟨he, bel⟩ => ?_
  subst he
  exact ⟨_, rfl, _, _, _, [], _, [], hW', trodAll_mk1 (shut_bool Try.underlying4 _), (trodAll_cons_mk (Below.trod laidOut (by kernel_rfl) (of_decide_eq_true (by kernel_rfl)) k0 bel lt0) (trodAll_cons_mk (Below.trod laidOut (by kernel_rfl) (of_decide_eq_true (by kernel_rfl)) k1 bel lt1) trodAll_mk0)), rfl, bel.frame _, fun h => by cases h⟩

/-- The law. -/
theorem proved : Rows.DictOrdersSaid :=
  OpenClaim.holds_of_wide 4 Try.f4 rfl rfl rfl rfl rfl rfl rfl ⟨rfl, rfl, rfl, rfl, rfl⟩ rfl rfl rfl rfl rfl (by kernel_rfl) Try.func4 (by kernel_rfl)
    (of_decide_eq_true (by kernel_rfl)) (by unfold Func.isWrapper; first | (rw [if_pos (by decide +kernel)]; kernel_rfl) | (rw [if_neg (by decide +kernel)]; exact ⟨rfl, rfl⟩))
    (fun os started H enc _ => lifted os started H enc)
end Go.Proofs.Ytomgfhapmhagnaa.dictOrders
