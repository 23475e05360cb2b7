/- Texts of this repo, joined, without what this claim does not use: Tells, RefDictP, StrCmp, P0, P1, Short, P2, RefBuild, RefBuild2, Open, OpenS, LawDBuilds. -/
import Derived.Test.YtomgfhapmhagnaaDDBuilds1
import Derived.WalkKit
import Derived.Sort.EncStr
import Derived.Sort.Walk0
import Derived.Test.YtomgfhapmhagnaaProg
import Derived.Below
import Derived.Deep.Draws
import Derived.Deep.AppendLies
import Derived.Maps.AppendAt
import Derived.OwnWalk
import Derived.Laws.BytesArg
import Derived.Laws.MakeOwn
import Derived.Laws.OwnMore
import Derived.Deep.OwnRows
import Derived.Tactics
import Derived.Lib.ConvBytes
import Derived.Laws.Slices
import Derived.KernelRfl
import Derived.RowKit3
import Derived.Deep.LoopGhost
import Derived.Deep.QuietTactic
import Derived.BigQuiet
import Derived.WideLaws
import Derived.Deep.DeepCutAuto
import Derived.Deep.CutBlock
import Derived.Deep.RegionHeld3
import Derived.Laws.Rows
import Derived.Lib.AppendStr
import Derived.ArgAppend
import Derived.Laws.IdiomCopy
import Derived.OrdersHeld
import Derived.Laws.BitsLemmas
import Derived.RowKit
import Derived.ProofKit
import Derived.OpenShut
import Derived.SliceStrings
import Derived.SizedLaws
import Derived.Test.YtomgfhapmhagnaaRows
import Derived.ShutString
import Derived.ChangeOld
section
namespace Go.Proofs.Ytomgfhapmhagnaa.Txt
set_option linter.unusedVariables false
set_option linter.unusedSimpArgs false
open Go.RowKit Go.Proofs.YtomgfhapmhagnaaW.PrintWords Go.Proofs.YtomgfhapmhagnaaW.PrintLast Go.Proofs.YtomgfhapmhagnaaW.PrintMore Go.Proofs.Ytomgfhapmhagnaa.Lib
theorem has_at {l : List T} (h : l.Pairwise (· < ·)) (k : Nat) (hk : k < l.length) : has l (l.getD k []) = true := decide_eq_true (by rw [fromOf_at h k hk]; exact ⟨hk, rfl⟩)
theorem below_drews {b : Nat} {w w' : World} (h : Below b w w') (n : Nat) : Below b w (w'.drewN n) := by
  exact below_drewN h n
set_option maxRecDepth 100000 in
set_option maxHeartbeats 400000 in
theorem tells_calls (l asks : List T) (ids : List Int) (g : Nat) (A1 : Option Addr) (c1 : Nat) (A2 : Option Addr) (n2 c2 : Nat) (A3 : Option Addr) (n3 c3 : Nat) (w : World) (hs : DictAt w g l) (hr : l.Pairwise (· < ·)) (hl : l.length ≤ 4096) (ht : ∀ t ∈ l, t.length ≤ 64)
    (hC1 : text.C w A1 l.length l) (hC2 : text.C w A2 n2 asks) (hC3 : Kd.C (Kd.int .i64) w A3 n3 ids) :
    Calls Try.prog 12 #[.pointer (some ⟨g, 0, none⟩), .slice A1 l.length c1, .slice A2 n2 c2, .slice A3 n3 c3] w fun e w' => e = .returned (.bool true) ∧ Below w.heap.size w w' := by
  have HS := Aside0.mk hs
  have HC1 := Aside0.mk hC1
  have HC2 := Aside0.mk hC2
  have HC3 := Aside0.mk hC3
  have HN2 := Aside0.mk (show asks.length = n2 from hC2.1)
  have HN3 := Aside0.mk (show ids.length = n3 from hC3.1)
  have hn2 := hC2.2.1
  have hn3 := hC3.2.1
  have hlm : maxLen ≤ 9223372036854775807 := by decide
  have HLen := Aside0.mk (fun w (h : DictAt w g l) => len_calls w g l h)
  have HBy := Aside0.mk (fun w (h : DictAt w g l) => bytes_calls w g l h hl ht)
  have HRf := Aside0.mk (fun w (h : text.C w A1 l.length l) => refbytes_calls l A1 l.length c1 w h hl ht)
  have HId := Aside0.mk (fun w (h : DictAt w g l) s => id_calls w g l s h hr (by omega))
  have HFr := Aside0.mk (fun w (h : DictAt w g l) s => from_calls w g l s h hr (by omega))
  have HBe := Aside0.mk (fun w (h : DictAt w g l) s => begin_calls w g l s h hr (by omega))
  have HRB := Aside0.mk (fun w (h : text.C w A1 l.length l) p => refbegin_calls l A1 l.length c1 p w h (by omega))
  have HRF := Aside0.mk (fun w (h : text.C w A1 l.length l) s => reffrom_calls l A1 l.length c1 s w h)
  have HTx := Aside0.mk (fun w (h : DictAt w g l) i (hi : i < l.length) => text_calls w g l h i hi)
  have HTn := Aside0.mk (fun w (h : DictAt w g l) (i : Int) (hi : i < 0 ∨ (l.length : Int) ≤ i) => text_no w g l h i hi)
  have HHas := Aside0.mk (fun k (hk : k < l.length) => has_at hr k hk)
  have HFat := Aside0.mk (fun k (hk : k < l.length) => fromOf_at hr k hk)
  have HHd : Aside0 (∀ s, has l s = decide (fromOf l s < l.length ∧ l.getD (fromOf l s) [] = s)) := ⟨fun s => rfl⟩
  have HAt := Aside0.mk (fun w (h : text.C w A1 l.length l) k (hk : k < l.length) => at_text h k hk)
  have HLD := Aside0.mk (show l.length ≤ 4096 from hl)
  generalize dictBytes l = D at HBy HRf
  obtain ⟨m, hm⟩ : ∃ m, l.length = m := ⟨_, rfl⟩
  simp only [hm] at HLen HC1 HRf HRB HRF HTx HTn HHas HFat HHd HAt HLD hC1 ⊢
  have HM := Aside0.mk hm
  clear hs hr hl ht hC1 hC2 hC3 hm
  go_enter Try.func12, Try.ntmps12
  go_wp2_with fail
  have hmm : ((m : Int) != (m : Int)) = false := by simp
  refine start_ (n := 14) (S := fun w' => True) (ds := []) #[false, false, false, false, false, false, false, false, false, false, false, false, false, false] (by kernel_rfl) rfl rfl trivial (fun hHeld => ?_)
  refine pure_ (i := 0) (N := some 27) (v := ?_) (a' := ?_) #[true, false, false, false, false, false, false, false, false, false, false, false, false, false] rfl rfl (by kernel_rfl) (fun _ _ _ h => h) (Or.inl ⟨by rfl, ?_⟩) ?_ ?_
  rotate_left
  · intro w'
    go_simp
    with_reducible rfl
  rotate_left
  · simp only [Act.put, List.setIfInBounds_toArray, List.set_cons_zero, List.set_cons_succ, i64_w, i32_w]
    rfl
  refine pure_ (i := 2) (N := some 29) (v := ?_) (a' := ?_) #[true, false, true, false, false, false, false, false, false, false, false, false, false, false] rfl rfl (by kernel_rfl) (fun _ _ _ h => h) (Or.inl ⟨by rfl, ?_⟩) ?_ ?_
  rotate_left
  · intro w'
    go_simp
    with_reducible rfl
  rotate_left
  · simp only [Act.put, List.setIfInBounds_toArray, List.set_cons_zero, List.set_cons_succ, i64_w, i32_w]
    rfl
  refine pure_ (i := 3) (N := some 30) (v := ?_) (a' := ?_) #[true, false, true, true, false, false, false, false, false, false, false, false, false, false] rfl rfl (by kernel_rfl) (fun _ _ _ h => h) (Or.inl ⟨by rfl, ?_⟩) ?_ ?_
  rotate_left
  · intro w'
    go_simp
    with_reducible rfl
  rotate_left
  · simp only [Act.put, List.setIfInBounds_toArray, List.set_cons_zero, List.set_cons_succ, i64_w, i32_w]
    rfl
  refine one_ (i := 1) (N := some 28) #[true, true, true, true, false, false, false, false, false, false, false, false, false, false] rfl rfl (by kernel_rfl) (by decide) (fun K hK => ?_)
  refine goes_ Try.func15 (by kernel_rfl) rfl #[.pointer (some ⟨g, 0, none⟩)] (by rfl) rfl rfl (by simp only [List.map_toArray, List.map_cons, List.map_nil]; rfl) ?_
  with_reducible refine (HLen.out _ (HS.out.below (below_drew (Below.refl _ _)))).mono ?_
  rintro e w1 ⟨rfl, rfl⟩
  refine ⟨_, rfl, ?_⟩
  refine hK.out _ _ trivial (fun hHeld => ?_)
  clear hK K
  refine norm_ (a' := ?_) ?_ ?_
  rotate_left
  · show Act.put _ (some 28) _ = _
    simp only [Act.put, List.setIfInBounds_toArray, List.set_cons_zero, List.set_cons_succ, i64_w, i32_w]
    rfl
  refine pure_ (i := 4) (N := some 31) (v := ?_) (a' := ?_) #[true, true, true, true, true, false, false, false, false, false, false, false, false, false] rfl rfl (by kernel_rfl) (fun _ _ _ h => h) (Or.inl ⟨by rfl, ?_⟩) ?_ ?_
  rotate_left
  · intro w'
    go_simp
    with_reducible rfl
  rotate_left
  · simp only [Act.put, List.setIfInBounds_toArray, List.set_cons_zero, List.set_cons_succ, i64_w, i32_w]
    rfl
  refine pure_ (i := 5) (N := some 32) (v := ?_) (a' := ?_) #[true, true, true, true, true, true, false, false, false, false, false, false, false, false] rfl rfl (by kernel_rfl) (fun _ _ _ h => h) (Or.inl ⟨by rfl, ?_⟩) ?_ ?_
  rotate_left
  · intro w'
    go_simp
    with_reducible rfl
  rotate_left
  · simp only [Act.put, List.setIfInBounds_toArray, List.set_cons_zero, List.set_cons_succ, i64_w, i32_w]
    rfl
  refine pure_ (i := 6) (N := some 33) (v := ?_) (a' := ?_) #[true, true, true, true, true, true, true, false, false, false, false, false, false, false] rfl rfl (by kernel_rfl) (fun _ _ _ h => h) (Or.inl ⟨by rfl, ?_⟩) ?_ ?_
  rotate_left
  · intro w'
    go_simp
    with_reducible rfl
  rotate_left
  · simp only [Act.put, List.setIfInBounds_toArray, List.set_cons_zero, List.set_cons_succ, i64_w, i32_w]
    rfl
  refine pure_ (i := 9) (N := some 36) (v := ?_) (a' := ?_) #[true, true, true, true, true, true, true, false, false, true, false, false, false, false] rfl rfl (by kernel_rfl) (fun _ _ _ h => h) (Or.inl ⟨by rfl, ?_⟩) ?_ ?_
  rotate_left
  · intro w'
    go_simp
    with_reducible rfl
  rotate_left
  · simp only [Act.put, List.setIfInBounds_toArray, List.set_cons_zero, List.set_cons_succ, i64_w, i32_w]
    rfl
  refine one_ (i := 7) (N := some 34) #[true, true, true, true, true, true, true, true, false, true, false, false, false, false] rfl rfl (by kernel_rfl) (by decide) (fun K hK => ?_)
  refine goes_ Try.func18 (by kernel_rfl) rfl #[.pointer (some ⟨g, 0, none⟩)] (by rfl) rfl rfl (by simp only [List.map_toArray, List.map_cons, List.map_nil]; rfl) ?_
  with_reducible refine (HBy.out _ (HS.out.below (below_drew (Below.refl _ _)))).mono ?_
  rintro e w1 ⟨v1, rfl, ho, hb⟩
  refine ⟨_, rfl, ?_⟩
  obtain ⟨A8, c8, rfl, hc8, hC8⟩ := Kd.R_reads ho
  have HC8 := Aside0.mk hC8
  have HB1 := Aside0.mk (below_then (below_drew (Below.refl w.heap.size w)) (Nat.le_refl _) hb)
  clear ho hb hc8 hC8
  refine hK.out _ _ trivial (fun hHeld => ?_)
  clear hK K
  refine norm_ (a' := ?_) ?_ ?_
  rotate_left
  · show Act.put _ (some 34) _ = _
    simp only [Act.put, List.setIfInBounds_toArray, List.set_cons_zero, List.set_cons_succ, i64_w, i32_w]
    rfl
  refine more_ (S' := fun w' => (convert 43 9 (.slice A8 D.length c8)).run Try.prog w' = .ok (.string (strOfNums D)) w') (fun _ h => trivial) (Kd.C_string Try.underlying43 Try.underlying5 Try.underlying9 (c := c8) HC8.out) (fun hHeld => ?_)
  refine take_ (i := 8) (N := some 35) (v := ?_) (a' := ?_) #[true, true, true, true, true, true, true, true, true, true, false, false, false, false] rfl rfl (by kernel_rfl) (fun _ _ _ h => h) (Or.inl ⟨by rfl, ?_⟩) hHeld ?_ ?_
  rotate_left
  · intro w' s0
    go_simp
    with_reducible rfl
  rotate_left
  · simp only [Act.put, List.setIfInBounds_toArray, List.set_cons_zero, List.set_cons_succ, i64_w, i32_w]
    rfl
  refine one_ (i := 10) (N := some 37) #[true, true, true, true, true, true, true, true, true, true, true, false, false, false] rfl rfl (by kernel_rfl) (by decide) (fun K hK => ?_)
  refine goes_ Try.func28 (by kernel_rfl) rfl #[.slice A1 m c1] (by rfl) rfl rfl (by simp only [List.map_toArray, List.map_cons, List.map_nil]; rfl) ?_
  with_reducible refine (HRf.out _ (Kd.C_below HC1.out HB1.out)).mono ?_
  rintro e w2 ⟨v2, rfl, ho, hb⟩
  refine ⟨_, rfl, ?_⟩
  obtain ⟨A9, c9, rfl, hc9, hC9⟩ := Kd.R_reads ho
  have HB2 := Aside0.mk (below_then HB1.out HB1.out.size hb)
  have HC9 := Aside0.mk hC9
  have HC89 := Aside0.mk (Kd.C_below HC8.out hb)
  clear ho hb hc9 hC9
  refine hK.out _ _ (Kd.C_string Try.underlying43 Try.underlying5 Try.underlying9 (c := c8) HC89.out) (fun hHeld => ?_)
  clear hK K
  refine norm_ (a' := ?_) ?_ ?_
  rotate_left
  · show Act.put _ (some 37) _ = _
    simp only [Act.put, List.setIfInBounds_toArray, List.set_cons_zero, List.set_cons_succ, i64_w, i32_w]
    rfl
  refine more_ (S' := fun w' => (convert 43 9 (.slice A8 D.length c8)).run Try.prog w' = .ok (.string (strOfNums D)) w' ∧ (convert 43 9 (.slice A9 D.length c9)).run Try.prog w' = .ok (.string (strOfNums D)) w') (fun _ h => (h.1)) ⟨hHeld, Kd.C_string Try.underlying43 Try.underlying5 Try.underlying9 (c := c9) HC9.out⟩ (fun hHeld => ?_)
  refine take_ (i := 11) (N := some 38) (v := ?_) (a' := ?_) #[true, true, true, true, true, true, true, true, true, true, true, true, false, false] rfl rfl (by kernel_rfl) (fun _ _ _ h => h) (Or.inl ⟨by rfl, ?_⟩) hHeld ?_ ?_
  rotate_left
  · rintro w' ⟨s0, s1⟩
    go_simp
    with_reducible rfl
  rotate_left
  · simp only [Act.put, List.setIfInBounds_toArray, List.set_cons_zero, List.set_cons_succ, i64_w, i32_w]
    rfl
  refine pure_ (i := 12) (N := some 39) (v := ?_) (a' := ?_) #[true, true, true, true, true, true, true, true, true, true, true, true, true, false] rfl rfl (by kernel_rfl) (fun _ _ _ h => h) (Or.inl ⟨by rfl, ?_⟩) ?_ ?_
  rotate_left
  · intro w'
    go_simp
    with_reducible rfl
  rotate_left
  · simp only [Act.put, List.setIfInBounds_toArray, List.set_cons_zero, List.set_cons_succ, i64_w, i32_w]
    rfl
  refine pure_ (i := 13) (N := some 40) (v := ?_) (a' := ?_) #[true, true, true, true, true, true, true, true, true, true, true, true, true, true] rfl rfl (by kernel_rfl) (fun _ _ _ h => h) (Or.inl ⟨by rfl, ?_⟩) ?_ ?_
  rotate_left
  · intro w'
    go_simp
    with_reducible rfl
  rotate_left
  · simp only [Act.put, List.setIfInBounds_toArray, List.set_cons_zero, List.set_cons_succ, i64_w, i32_w]
    rfl
  refine done_ (by kernel_rfl) ?_
  clear hmm
  go_wp2_with fail
  go_loopw [9] (fun kv w' => ∃ k : Nat, k ≤ m ∧ kv = .int .i64 k ∧ Aside0 (Below w.heap.size w w')) (fun kv _ => m - (intOf kv).toNat)
  case atStart => exact ⟨0, Nat.zero_le _, rfl, HB2⟩
  case round =>
    obtain ⟨k, hk, rfl, HB⟩ := hrel
    by_cases hlt : k < m
    · have hki : (k : Int) < (m : Int) := by omega
      have hm4 := HLD.out
      have HS' := Aside0.mk (HS.out.below HB.out)
      obtain ⟨ad, e, hcell⟩ := HAt.out _ (Kd.C_below HC1.out HB.out) k hlt
      subst e
      have hh := HHas.out k hlt
      have hf := HFat.out k hlt
      have HT := Aside0.mk (HTx.out _ HS'.out k hlt)
      have HI := Aside0.mk (HId.out _ HS'.out (bs (l.getD k [])))
      rw [bs_data, hh, hf, if_pos rfl] at HI
      have HCell2 := Aside0.mk (fun w2 (h : Below w.heap.size w w2) => HAt.out w2 (Kd.C_below HC1.out h) k hlt)
      clear hh hf
      generalize bs (l.getD k []) = s at *
      go_wp2_with fail
      refine HT.out.mono ?_
      rintro e w4 ⟨rfl, rfl⟩
      go_wp2_with fail
      refine HI.out.mono ?_
      rintro e w4 ⟨rfl, hb⟩
      have HB4 := Aside0.mk (below_then HB.out HB.out.size hb)
      obtain ⟨ad', e, hcell'⟩ := HCell2.out _ HB4.out
      cases e
      clear hb HB hcell HCell2
      go_wp2_with fail
      go_roundw
      case rel => exact ⟨k + 1, by omega, by go_num, HB4⟩
      case measure => simp [intOf]; omega
    · have e : m = k := by omega
      subst e
      go_wp2_with fail
      clear hlt hk HB2
      go_loopw [14] (fun kv w' => ∃ k : Nat, k ≤ n2 ∧ kv = .int .i64 k ∧ Aside0 (Below w.heap.size w w')) (fun kv _ => n2 - (intOf kv).toNat)
      case atStart => exact ⟨0, Nat.zero_le _, rfl, HB⟩
      case round =>
        obtain ⟨k, hk, rfl, HB⟩ := hrel
        by_cases hlt : k < n2
        · have hki : (k : Int) < (n2 : Int) := by omega
          obtain ⟨ad2, e, hcell⟩ := at_text (Kd.C_below HC2.out HB.out) k hlt
          have HCell := Aside0.mk (fun w2 (h : Below w.heap.size w w2) => at_text (Kd.C_below HC2.out h) k hlt)
          subst e
          generalize asks.getD k [] = t at *
          have hh := HHd.out t
          by_cases hK : fromOf l t < m
          · have hKi : (fromOf l t : Int) < (m : Int) := by omega
            have HCl := Aside0.mk (fun w2 (h : Below w.heap.size w w2) => HAt.out w2 (Kd.C_below HC1.out h) _ hK)
            by_cases hq : l.getD (fromOf l t) [] = t
            · have hhas : has l t = true := by rw [hh]; exact decide_eq_true ⟨hK, hq⟩
              rw [hq] at HCl
              clear hh hq
              have H13 := Aside0.mk (HRF.out _ (Kd.C_below HC1.out HB.out) (bs t))
              have H14 := Aside0.mk (HRB.out _ (Kd.C_below HC1.out HB.out) (bs t))
              have H15 := Aside0.mk (HBe.out _ (HS.out.below HB.out) (bs t))
              have H16 := Aside0.mk (fun w2 (h : DictAt w2 g l) => HId.out w2 h (bs t))
              have H18 := Aside0.mk (fun w2 (h : DictAt w2 g l) => HFr.out w2 h (bs t))
              simp only [bs_data, hhas, if_true, if_false, Bool.false_eq_true] at H13 H14 H15 H16 H18
              clear hhas
              generalize fromOf l t = K at *
              generalize runOf l t = R at *
              generalize bs t = s at *
              go_wp2_with fail
              refine H13.out.mono ?_
              rintro e w4 ⟨rfl, rfl⟩
              go_wp2_with fail
              refine H14.out.mono ?_
              rintro e w4 ⟨rfl, rfl⟩
              go_wp2_with fail
              refine H15.out.mono ?_
              rintro e w4 ⟨rfl, hb⟩
              have HB4 := Aside0.mk (below_then HB.out HB.out.size hb)
              obtain ⟨ad', e, hcell'⟩ := HCell.out _ HB4.out
              cases e
              clear hb hcell HB H13 H14 H15
              go_wp2_with fail
              refine (H16.out _ (HS.out.below HB4.out)).mono ?_
              rintro e w5 ⟨rfl, hb⟩
              have HB5 := Aside0.mk (below_then HB4.out HB4.out.size hb)
              obtain ⟨ad', e, hcell⟩ := HCell.out _ HB5.out
              cases e
              clear hb hcell' HB4 H16 HCell
              obtain ⟨ad1, e, hcell1⟩ := HCl.out _ HB5.out
              subst e
              clear HCl
              go_wp2_with fail
              go_quiet (fail)
              clear hcell1
              go_wp2_with fail
              refine (H18.out _ (HS.out.below (below_drews HB5.out _))).mono ?_
              rintro e w6 ⟨rfl, hb⟩
              have HB6 := Aside0.mk (below_then (below_drews HB5.out _) (below_drews HB5.out _).size hb)
              clear hb hcell HB5 H18
              go_wp2_with fail
              go_roundw
              case rel => exact ⟨k + 1, by omega, by go_num, HB6⟩
              case measure => simp [intOf]; omega
            · have hhas : has l t = false := by rw [hh]; exact decide_eq_false (fun h => hq h.2)
              have hne : ((bs (l.getD (fromOf l t) [])).toList == (bs t).toList) = false := by
                rw [ByteArray.toList_eq, ByteArray.toList_eq, bs_data, bs_data, beq_eq_false_iff_ne]; exact hq
              clear hh hq
              generalize bs (l.getD (fromOf l t) []) = s1 at *
              have H13 := Aside0.mk (HRF.out _ (Kd.C_below HC1.out HB.out) (bs t))
              have H14 := Aside0.mk (HRB.out _ (Kd.C_below HC1.out HB.out) (bs t))
              have H15 := Aside0.mk (HBe.out _ (HS.out.below HB.out) (bs t))
              have H16 := Aside0.mk (fun w2 (h : DictAt w2 g l) => HId.out w2 h (bs t))
              have H18 := Aside0.mk (fun w2 (h : DictAt w2 g l) => HFr.out w2 h (bs t))
              simp only [bs_data, hhas, if_true, if_false, Bool.false_eq_true] at H13 H14 H15 H16 H18
              clear hhas
              generalize fromOf l t = K at *
              generalize runOf l t = R at *
              generalize bs t = s at *
              go_wp2_with fail
              refine H13.out.mono ?_
              rintro e w4 ⟨rfl, rfl⟩
              go_wp2_with fail
              refine H14.out.mono ?_
              rintro e w4 ⟨rfl, rfl⟩
              go_wp2_with fail
              refine H15.out.mono ?_
              rintro e w4 ⟨rfl, hb⟩
              have HB4 := Aside0.mk (below_then HB.out HB.out.size hb)
              obtain ⟨ad', e, hcell'⟩ := HCell.out _ HB4.out
              cases e
              clear hb hcell HB H13 H14 H15
              go_wp2_with fail
              refine (H16.out _ (HS.out.below HB4.out)).mono ?_
              rintro e w5 ⟨rfl, hb⟩
              have HB5 := Aside0.mk (below_then HB4.out HB4.out.size hb)
              obtain ⟨ad', e, hcell⟩ := HCell.out _ HB5.out
              cases e
              clear hb hcell' HB4 H16 HCell
              obtain ⟨ad1, e, hcell1⟩ := HCl.out _ HB5.out
              subst e
              clear HCl
              go_wp2_with fail
              go_quiet (fail)
              clear hcell1
              go_wp2_with fail
              refine (H18.out _ (HS.out.below (below_drews HB5.out _))).mono ?_
              rintro e w6 ⟨rfl, hb⟩
              have HB6 := Aside0.mk (below_then (below_drews HB5.out _) (below_drews HB5.out _).size hb)
              clear hb hcell HB5 H18
              go_wp2_with fail
              go_roundw
              case rel => exact ⟨k + 1, by omega, by go_num, HB6⟩
              case measure => simp [intOf]; omega
          · have hhas : has l t = false := by rw [hh]; exact decide_eq_false (fun h => hK h.1)
            have hKi : decide (fromOf l t < m) = false := decide_eq_false hK
            clear hh hK
            have H13 := Aside0.mk (HRF.out _ (Kd.C_below HC1.out HB.out) (bs t))
            have H14 := Aside0.mk (HRB.out _ (Kd.C_below HC1.out HB.out) (bs t))
            have H15 := Aside0.mk (HBe.out _ (HS.out.below HB.out) (bs t))
            have H16 := Aside0.mk (fun w2 (h : DictAt w2 g l) => HId.out w2 h (bs t))
            have H18 := Aside0.mk (fun w2 (h : DictAt w2 g l) => HFr.out w2 h (bs t))
            simp only [bs_data, hhas, if_true, if_false, Bool.false_eq_true] at H13 H14 H15 H16 H18
            clear hhas
            generalize fromOf l t = K at *
            generalize runOf l t = R at *
            generalize bs t = s at *
            go_wp2_with fail
            refine H13.out.mono ?_
            rintro e w4 ⟨rfl, rfl⟩
            go_wp2_with fail
            refine H14.out.mono ?_
            rintro e w4 ⟨rfl, rfl⟩
            go_wp2_with fail
            refine H15.out.mono ?_
            rintro e w4 ⟨rfl, hb⟩
            have HB4 := Aside0.mk (below_then HB.out HB.out.size hb)
            obtain ⟨ad', e, hcell'⟩ := HCell.out _ HB4.out
            cases e
            clear hb hcell HB H13 H14 H15
            go_wp2_with fail
            refine (H16.out _ (HS.out.below HB4.out)).mono ?_
            rintro e w5 ⟨rfl, hb⟩
            have HB5 := Aside0.mk (below_then HB4.out HB4.out.size hb)
            obtain ⟨ad', e, hcell⟩ := HCell.out _ HB5.out
            cases e
            clear hb hcell' HB4 H16 HCell
            go_wp2_with fail
            go_quiet (fail)
            go_wp2_with fail
            refine (H18.out _ (HS.out.below (below_drews HB5.out _))).mono ?_
            rintro e w6 ⟨rfl, hb⟩
            have HB6 := Aside0.mk (below_then (below_drews HB5.out _) (below_drews HB5.out _).size hb)
            clear hb hcell HB5 H18
            go_wp2_with fail
            go_roundw
            case rel => exact ⟨k + 1, by omega, by go_num, HB6⟩
            case measure => simp [intOf]; omega
        · have e : n2 = k := by omega
          subst e
          go_wp2_with fail
          clear hlt hk
          go_loopw [23] (fun kv w' => ∃ k : Nat, k ≤ n3 ∧ kv = .int .i64 k ∧ Aside0 (Below w.heap.size w w')) (fun kv _ => n3 - (intOf kv).toNat)
          case atStart => exact ⟨0, Nat.zero_le _, rfl, HB⟩
          case round =>
            obtain ⟨k, hk, rfl, HB⟩ := hrel
            by_cases hlt : k < n3
            · have hki : (k : Int) < (n3 : Int) := by omega
              obtain ⟨ad2, e, hcell⟩ := Kd.at_int (Kd.C_below HC3.out HB.out) k (by omega) (by omega)
              subst e
              simp only [Int.toNat_natCast, rd_nat] at hcell
              generalize ids.getD k 0 = v at *
              have hv : (0 ≤ v ∧ v < (m : Int)) ∨ v < 0 ∨ (0 ≤ v ∧ (m : Int) ≤ v) := by omega
              rcases hv with hv | hv | hv
              · obtain ⟨j, rfl⟩ := Int.eq_ofNat_of_zero_le hv.1
                have hj : j < m := by omega
                have hj0 : (0 : Int) ≤ (j : Int) := by omega
                have hji : (j : Int) < (m : Int) := by omega
                obtain ⟨ad1, e, hcell1⟩ := HAt.out _ (Kd.C_below HC1.out HB.out) j hj
                subst e
                have HT := Aside0.mk (HTx.out _ (HS.out.below HB.out) j hj)
                clear hv
                generalize bs (l.getD j []) = s at *
                go_wp2_with fail
                refine HT.out.mono ?_
                rintro e w4 ⟨rfl, rfl⟩
                go_wp2_with fail
                go_roundw
                case rel => exact ⟨k + 1, by omega, by go_num, HB⟩
                case measure => simp [intOf]; omega
              · have HT := Aside0.mk (HTn.out _ (HS.out.below HB.out) v (.inl hv))
                have hv0 : decide (0 ≤ v) = false := decide_eq_false (by omega)
                clear hv
                go_wp2_with fail
                refine HT.out.mono ?_
                rintro e w4 ⟨rfl, rfl⟩
                go_wp2_with fail
                go_roundw
                case rel => exact ⟨k + 1, by omega, by go_num, HB⟩
                case measure => simp [intOf]; omega
              · have HT := Aside0.mk (HTn.out _ (HS.out.below HB.out) v (.inr hv.2))
                have hv0 : decide (0 ≤ v) = true := decide_eq_true hv.1
                have hv1 : decide (v < (m : Int)) = false := decide_eq_false (by omega)
                clear hv
                go_wp2_with fail
                refine HT.out.mono ?_
                rintro e w4 ⟨rfl, rfl⟩
                go_wp2_with fail
                go_roundw
                case rel => exact ⟨k + 1, by omega, by go_num, HB⟩
                case measure => simp [intOf]; omega
            · have e : n3 = k := by omega
              subst e
              go_wp2_with fail
              go_ret
              exact ⟨rfl, HB.out⟩
end Go.Proofs.Ytomgfhapmhagnaa.Txt
end

section
namespace Go.Proofs.Ytomgfhapmhagnaa.Txt
set_option linter.unusedVariables false
set_option linter.unusedSimpArgs false
def putT (out : List T) (t : T) : List T := if has out t then out else out.take (fromOf out t) ++ [t] ++ out.drop (fromOf out t)
theorem take_lt {l : List T} {t x : T} (h : x ∈ l.take (fromOf l t)) : x < t := by
  obtain ⟨i, hi, rfl⟩ := List.mem_iff_getElem.1 h
  rw [List.length_take] at hi
  have h1 := fromOf_lt l t i (by omega)
  rw [List.getD_eq_getElem?_getD, List.getElem?_eq_getElem (by omega)] at h1
  rw [List.getElem_take]
  exact h1
theorem drop_gt {l : List T} (hr : l.Pairwise (· < ·)) {t x : T} (hh : has l t = false) (h : x ∈ l.drop (fromOf l t)) : t < x := by
  obtain ⟨i, hi, rfl⟩ := List.mem_iff_getElem.1 h
  rw [List.length_drop] at hi
  rw [List.getElem_drop]
  have hf : fromOf l t < l.length := by omega
  have h0 : t < l.getD (fromOf l t) [] := by
    refine lt_of_le_ne (fromOf_not l t hf) (fun e => ?_)
    have : has l t = true := decide_eq_true ⟨hf, e.symm⟩
    rw [this] at hh
    cases hh
  have h1 := rises_le hr (fromOf l t) (fromOf l t + i) (by omega) (by omega)
  have h2 := lt_of_lt_le h0 h1
  rw [List.getD_eq_getElem?_getD, List.getElem?_eq_getElem (by omega)] at h2
  exact h2
theorem putT_rises {l : List T} (hr : l.Pairwise (· < ·)) (t : T) : (putT l t).Pairwise (· < ·) := by
  unfold putT
  cases hh : has l t
  case true => exact hr
  case false =>
    rw [if_neg (by decide)]
    rw [List.append_assoc, List.pairwise_append]
    refine ⟨hr.sublist (List.take_sublist _ _), ?_, fun a ha b hb => ?_⟩
    · rw [List.singleton_append, List.pairwise_cons]
      exact ⟨fun x hx => drop_gt hr hh hx, hr.sublist (List.drop_sublist _ _)⟩
    · rw [List.singleton_append, List.mem_cons] at hb
      rcases hb with rfl | hb
      · exact take_lt ha
      · exact lt_trans (take_lt ha) (drop_gt hr hh hb)
theorem putT_mem {l : List T} (hr : l.Pairwise (· < ·)) (t y : T) : y ∈ putT l t ↔ y ∈ l ∨ y = t := by
  unfold putT
  cases hh : has l t
  case true =>
    have := (has_iff hr t).1 hh
    exact ⟨.inl, fun h => h.elim id (fun e => e ▸ this)⟩
  case false =>
    rw [if_neg (by decide)]
    have e : y ∈ l ↔ y ∈ l.take (fromOf l t) ∨ y ∈ l.drop (fromOf l t) := by rw [← List.mem_append, List.take_append_drop]
    rw [List.mem_append, List.mem_append, List.mem_singleton, e]
    constructor
    · rintro ((h | h) | h)
      · exact .inl (.inl h)
      · exact .inr h
      · exact .inl (.inr h)
    · rintro ((h | h) | h)
      · exact .inl (.inl h)
      · exact .inr h
      · exact .inl (.inr h)
theorem putT_built (ts : List T) (t : T) : putT (built ts) t = built (ts ++ [t]) :=
  rises_eq (putT_rises (built_rises _) t) (built_rises _) fun y => by
    rw [putT_mem (built_rises _), built_mem, built_mem, List.mem_append, List.mem_singleton]
theorem built_take (ts : List T) (k : Nat) (h : k < ts.length) : putT (built (ts.take k)) (ts.getD k []) = built (ts.take (k + 1)) := by
  rw [putT_built, List.take_succ_eq_append_getElem h, List.getD_eq_getElem?_getD, List.getElem?_eq_getElem h]
  rfl
end Go.Proofs.Ytomgfhapmhagnaa.Txt
end

section
namespace Go.Proofs.Ytomgfhapmhagnaa.Ext
open Go.RowKit
theorem less_dec (a b : ByteArray) : Op.bytesLess a.toList b.toList = decide (a.data.toList < b.data.toList) := by
  rw [ByteArray.toList_eq, ByteArray.toList_eq, bytesLess_eq]
theorem list_lt_or (a b : List UInt8) : a < b ∨ a = b ∨ b < a := by
  rcases Decidable.em (a < b) with h | h
  · exact .inl h
  rcases Decidable.em (b < a) with h2 | h2
  · exact .inr (.inr h2)
  exact .inr (.inl (List.le_antisymm h2 h))
theorem eq_dec (a b : ByteArray) : (a.toList == b.toList) = decide (a.data.toList = b.data.toList) := by
  rw [ByteArray.toList_eq, ByteArray.toList_eq, Bool.eq_iff_iff, beq_iff_eq, decide_eq_true_iff]
theorem less_or_eq (a b : ByteArray) : (Op.bytesLess a.toList b.toList || a.toList == b.toList) = !(Op.bytesLess b.toList a.toList) := by
  rw [less_dec, less_dec, eq_dec]
  rcases list_lt_or a.data.toList b.data.toList with h | h | h
  · rw [decide_eq_true h, decide_eq_false (fun h2 => List.lt_asymm h h2)]; rfl
  · rw [h, decide_eq_false (List.lt_irrefl _)]; simp
  · rw [decide_eq_true h, decide_eq_false (fun h2 => List.lt_asymm h h2), decide_eq_false (fun h2 => by rw [h2] at h; exact List.lt_irrefl _ h)]; rfl
theorem gtr_str (t : TypeId) (a b : ByteArray) : binOp .gtr t (.string a) (.string b) = pure (.bool (Op.bytesLess b.toList a.toList)) := by
  have h : binOp .gtr t (.string a) (.string b) = pure (.bool !(Op.bytesLess a.toList b.toList || a.toList == b.toList)) := by simp [binOp, Op.stringOp]
  rw [h, less_or_eq, Bool.not_not]
theorem leq_str (t : TypeId) (a b : ByteArray) : binOp .leq t (.string a) (.string b) = pure (.bool !(Op.bytesLess b.toList a.toList)) := by
  have h : binOp .leq t (.string a) (.string b) = pure (.bool (Op.bytesLess a.toList b.toList || a.toList == b.toList)) := by simp [binOp, Op.stringOp]
  rw [h, less_or_eq]
theorem geq_str (t : TypeId) (a b : ByteArray) : binOp .geq t (.string a) (.string b) = pure (.bool !(Op.bytesLess a.toList b.toList)) := by
  simp [binOp, Op.stringOp]
theorem q1_ {α : Type} (l : List α) (i : Nat) (a : α) : l.toArray.setIfInBounds i a = (l.set i a).toArray := List.setIfInBounds_toArray ..
theorem q2_ {α : Type} (x : α) (l : List α) (a : α) : (x :: l).set 0 a = a :: l := rfl
theorem q3_ {α : Type} (x : α) (l : List α) (i : Nat) (a : α) : (x :: l).set (i + 1) a = x :: l.set i a := rfl
end Go.Proofs.Ytomgfhapmhagnaa.Ext
end

section
namespace Go.Proofs.Ytomgfhapmhagnaa.P
open Go.RowKit Go.Proofs.YtomgfhapmhagnaaW.PrintWords Go.Proofs.YtomgfhapmhagnaaW.PrintLast Go.Proofs.YtomgfhapmhagnaaW.PrintMore
attribute [local go_sem] max2_int min2_int max_two min_two max_three min_three max_four min_four   -- for this text's walks alone
set_option linter.unusedVariables false
set_option linter.unusedSimpArgs false
def errW : Option Int → Value
 | none => .nilIface
 | some c => .iface 0 (.int .i64 c)
theorem errW_none : errW none = .nilIface := rfl
theorem errW_some (c : Int) : errW (some c) = .iface 0 (.int .i64 c) := rfl
theorem info9 : (Try.prog.info? 9).map (fun i => (i.zero, i.size, i.bytes)) = some (some (.string ⟨#[]⟩), 1, 16) := by kernel_rfl
end Go.Proofs.Ytomgfhapmhagnaa.P
end

section
namespace Go.Proofs.Ytomgfhapmhagnaa.P
open Go.RowKit Go.Proofs.YtomgfhapmhagnaaW.PrintWords Go.Proofs.YtomgfhapmhagnaaW.PrintLast Go.Proofs.YtomgfhapmhagnaaW.PrintMore
attribute [local go_sem] max2_int min2_int max_two min_two max_three min_three max_four min_four   -- for this text's walks alone
set_option linter.unusedVariables false
set_option linter.unusedSimpArgs false
open Go.Proofs.Ytomgfhapmhagnaa.Ext (q1_ q2_ q3_)
attribute [local go_sem high] Go.Proofs.Ytomgfhapmhagnaa.Ext.gtr_str Go.Proofs.Ytomgfhapmhagnaa.Ext.leq_str Go.Proofs.Ytomgfhapmhagnaa.Ext.geq_str
def gristmillref03_From.l0 : Nat → List ByteArray → ByteArray → Int → Option (Int)
 | 0, _, _, _ => none
 | k + 1, x0, x1, x5 => if x5 < (x0.length : Int) then (if 0 ≤ x5 then (if (Op.bytesLess ((rdOf ByteArray.empty x0 x5).toList) x1.toList) = true then (gristmillref03_From.l0 k x0 x1 (wrap64 (x5 + 1))) else (some x5)) else (none)) else (some x5)
def gristmillref03_From.f (k : Nat) (l0 : List ByteArray) (a1 : ByteArray) : Option (Int) := gristmillref03_From.l0 k l0 a1 0
set_option maxHeartbeats 8000000 in
set_option maxRecDepth 100000 in
theorem gristmillref03_From.calls (k : Nat) (A0 : Option Addr) (c0 : Nat) (l0 : List ByteArray) (a1 : ByteArray) (r : Int) (w : World) (hr0 : Kd.C Kd.string w A0 l0.length l0) (hc0 : l0.length ≤ c0) (h : gristmillref03_From.f k l0 a1 = some r) :
  Calls Try.prog 27 #[.slice A0 l0.length c0, .string a1] w fun e w' => e = .returned (.int .i64 r) ∧ Drawn0 w w' := by
 have HR0 := Aside0.mk hr0
 have HC0 := Aside0.mk hc0
 clear hr0 hc0
 have H : (gristmillref03_From.l0 k l0 a1 0) = some r := h
 clear h
 have H' := Aside0.mk H
 clear H
 go_enter Try.func27, Try.ntmps27
 go_wp2
 go_loopg [5] k (fun kq v5 w' => ∃ (x5_1 : Int), v5 = .int .i64 x5_1 ∧ Aside0 (gristmillref03_From.l0 kq l0 a1 x5_1 = some r) ∧ Aside0 (kq ≤ k) ∧ Drawn0 w w')
 case atStart => exact ⟨(0), (by first | rfl | (simp; done) | (simp [*]; done)), H', ⟨Nat.le_refl _⟩, by repeat (first | exact Drawn0.refl _ | apply Drawn0.step)⟩
 case round =>
  clear H'
  try clear c2
  try clear p2
  obtain ⟨x5_1, rfl, HA, HK1, ⟨m1, rfl⟩⟩ := hrel
  cases gk with
  | zero => exact absurd HA.out (by simp [gristmillref03_From.l0])
  | succ k1 =>
   have H := HA.out
   clear HA
   simp only [gristmillref03_From.l0] at H
   by_cases c3 : x5_1 < (l0.length : Int)
   ·rw [if_pos c3] at H
    have c3b0 : decide (x5_1 < (l0.length : Int)) = true := decide_eq_true c3
    clear c3
    by_cases c4 : 0 ≤ x5_1
    ·rw [if_pos c4] at H
     have c4b0 : decide (0 ≤ x5_1) = true := decide_eq_true c4
     clear c4
     by_cases c5 : (Op.bytesLess ((rdOf ByteArray.empty l0 x5_1).toList) a1.toList) = true
     ·rw [if_pos c5] at H
      have c5b0 : (Op.bytesLess ((rdOf ByteArray.empty l0 x5_1).toList) a1.toList) = true := c5
      clear c5
      have H' := Aside0.mk H
      clear H
      have p101 : 0 ≤ (x5_1 : Int) := of_decide_eq_true (by assumption)
      have q101 : x5_1 < (l0.length : Int) := of_decide_eq_true (by assumption)
      obtain ⟨ad101, e101, hx101_0⟩ := Kd.at_string HR0.out x5_1 p101 q101
      cases e101
      replace p101 := eq_true p101
      replace q101 := eq_true q101
      go_wp2
      go_roundg k1
      case measure => have := HK1.out; omega
      case rel => exact ⟨(wrap64 (x5_1 + 1)), (by first | rfl | (simp; done) | (simp [*]; done)), H', ⟨by have := HK1.out; omega⟩, by repeat (first | exact Drawn0.refl _ | apply Drawn0.step)⟩
     ·rw [if_neg c5] at H
      have c5b0 : (Op.bytesLess ((rdOf ByteArray.empty l0 x5_1).toList) a1.toList) = false := by simpa using c5
      clear c5
      obtain rfl := Option.some.inj H
      have p101 : 0 ≤ (x5_1 : Int) := of_decide_eq_true (by assumption)
      have q101 : x5_1 < (l0.length : Int) := of_decide_eq_true (by assumption)
      obtain ⟨ad101, e101, hx101_0⟩ := Kd.at_string HR0.out x5_1 p101 q101
      cases e101
      replace p101 := eq_true p101
      replace q101 := eq_true q101
      go_wp2
      go_ret
      exact ⟨by first | rfl | (simp; done) | (simp [*]; done), by repeat (first | exact Drawn0.refl _ | apply Drawn0.step)⟩
    ·rw [if_neg c4] at H
     exact absurd H (by simp)
   ·rw [if_neg c3] at H
    have c3b0 : decide (x5_1 < (l0.length : Int)) = false := decide_eq_false c3
    clear c3
    obtain rfl := Option.some.inj H
    go_wp2
    go_ret
    exact ⟨by first | rfl | (simp; done) | (simp [*]; done), by repeat (first | exact Drawn0.refl _ | apply Drawn0.step)⟩
end Go.Proofs.Ytomgfhapmhagnaa.P
end

section
namespace Go.Proofs.Ytomgfhapmhagnaa.Ext
set_option linter.unusedVariables false
open Go.RowKit Go.Proofs.YtomgfhapmhagnaaW.PrintWords
theorem bk_ {w w' : World} {g : Nat} {o : Obj} (h : w.heap[g]? = some o)
    (k : w.heap[g]? = some o → w'.heap[g]? = some o := by intro h; (with_reducible repeat (first | refine blk_drewN ?_ _ | refine blk_drew ?_ | refine blk_alloc ?_ _)); exact h) : w'.heap[g]? = some o := k h
theorem bw_ {w W W' : World} (h : Below w.heap.size w W)
    (k : Below w.heap.size w W → Below w.heap.size w W' := by intro h; repeat (first | (with_reducible first | exact h | apply below_alloc | apply pw_below_drewN | apply below_drew1 | refine below_set ?_ (Aside0.out (by assumption))) | exact h)) : Below w.heap.size w W' := k h
theorem sz_ {w W' : World} {gb : Nat} (hg : gb = W'.heap.size) (h : Below w.heap.size w W') : w.heap.size ≤ gb := by rw [hg]; exact below_size h
theorem ne_ {W' : World} {g gb : Nat} (hg : gb = W'.heap.size) (h : g < W'.heap.size) : g ≠ gb := by rw [hg]; exact Nat.ne_of_lt h
theorem bx_ {P : Program} {ops : Array Oper} {rest : List Oper} {o : Oper} {a : Act} {Q : Exit → Act → World → Prop} {W : World} {N : Tmp} {cs : Array Value} {t : TypeId}
    (h : ∀ g, g = W.heap.size → ∀ w1, w1.heap[g]? = some (.cells cs t (0, 0)) → Below W.heap.size W w1 → wpList P ops Q rest (a.put o.dst (.pointer (some ⟨g, 0, none⟩))) w1)
    (hd : o.dst = some N := by rfl) (hgd : o.guard = none := by rfl)
    (hrun : (execOp a.eval o).run P W = .ok (.value (.pointer (some ⟨W.heap.size, 0, none⟩))) (W.alloc (.cells cs t (0, 0))) := by first | (go_simp; done) | (go_simp; rfl)) : wpList P ops Q (o :: rest) a W :=
  box_event hgd hd hrun h
end Go.Proofs.Ytomgfhapmhagnaa.Ext
end

section
namespace Go.Proofs.Ytomgfhapmhagnaa.P
open Go.RowKit Go.Proofs.YtomgfhapmhagnaaW.PrintWords Go.Proofs.YtomgfhapmhagnaaW.PrintLast Go.Proofs.YtomgfhapmhagnaaW.PrintMore
attribute [local go_sem] max2_int min2_int max_two min_two max_three min_three max_four min_four   -- for this text's walks alone
set_option linter.unusedVariables false
set_option linter.unusedSimpArgs false
open Go.Proofs.Ytomgfhapmhagnaa.Ext (q1_ q2_ q3_ bk_ bw_ sz_ ne_ bx_)
attribute [local go_sem high] Go.Proofs.Ytomgfhapmhagnaa.Ext.gtr_str Go.Proofs.Ytomgfhapmhagnaa.Ext.leq_str Go.Proofs.Ytomgfhapmhagnaa.Ext.geq_str
mutual
def gristmillref03_Build.l0 : Nat → List ByteArray → Int → Option (List ByteArray × Int)
 | 0, _, _ => none
 | k + 1, x0, x5 => if x5 < (x0.length : Int) then (if 0 ≤ x5 then (if ((rdOf ByteArray.empty x0 x5).size : Int) > 64 then (some (([] : List ByteArray), 1)) else (gristmillref03_Build.l0 k x0 (wrap64 (x5 + 1)))) else (none)) else (gristmillref03_Build.l1 k x0 ([] : List ByteArray) 0)
def gristmillref03_Build.l1 : Nat → List ByteArray → List ByteArray → Int → Option (List ByteArray × Int)
 | 0, _, _, _ => none
 | k + 1, x0, x4, x6 => if x6 < (x0.length : Int) then (if 0 ≤ x6 then ((gristmillref03_From.f k x4 (rdOf ByteArray.empty x0 x6)).bind fun t104 => (if t104 < (x4.length : Int) then (if 0 ≤ t104 then (if (rdOf ByteArray.empty x4 t104).toList = (rdOf ByteArray.empty x0 x6).toList then (gristmillref03_Build.l1 k x0 x4 (wrap64 (x6 + 1))) else (if t104 ≤ (x4.length : Int) then ((some (x4.take (t104 : Int).toNat : List ByteArray)).bind fun y107 => (if ([] : List ByteArray).length + y107.length < 8796093022208 then ((some (([] : List ByteArray) ++ y107 : List ByteArray)).bind fun y111 => (if y111.length < 8796093022208 then ((some (y111 ++ [rdOf ByteArray.empty x0 x6] : List ByteArray)).bind fun y115 => ((some (x4.drop (t104 : Int).toNat : List ByteArray)).bind fun y118 => (if y115.length + y118.length < 8796093022208 then (gristmillref03_Build.l1 k x0 (y115 ++ y118) (wrap64 (x6 + 1))) else (none)))) else (none))) else (none))) else (none))) else (none)) else (if 0 ≤ t104 then (if t104 ≤ (x4.length : Int) then ((some (x4.take (t104 : Int).toNat : List ByteArray)).bind fun y125 => (if ([] : List ByteArray).length + y125.length < 8796093022208 then ((some (([] : List ByteArray) ++ y125 : List ByteArray)).bind fun y129 => (if y129.length < 8796093022208 then ((some (y129 ++ [rdOf ByteArray.empty x0 x6] : List ByteArray)).bind fun y133 => ((some (x4.drop (t104 : Int).toNat : List ByteArray)).bind fun y136 => (if y133.length + y136.length < 8796093022208 then (gristmillref03_Build.l1 k x0 (y133 ++ y136) (wrap64 (x6 + 1))) else (none)))) else (none))) else (none))) else (none)) else (none)))) else (none)) else (if (x4.length : Int) > 4096 then (some (([] : List ByteArray), 1)) else (some (x4, 0)))
end
def gristmillref03_Build.f (k : Nat) (l0 : List ByteArray) : Option (List ByteArray × Int) := gristmillref03_Build.l0 k l0 0
set_option maxHeartbeats 8000000 in
set_option maxRecDepth 100000 in
theorem gristmillref03_Build.calls (k : Nat) (A0 : Option Addr) (c0 : Nat) (l0 : List ByteArray) (r1 : List ByteArray) (r2 : Int) (w : World) (hr0 : Kd.C Kd.string w A0 l0.length l0) (hc0 : l0.length ≤ c0) (h : gristmillref03_Build.f k l0 = some (r1, r2)) :
  Calls Try.prog 11 #[.slice A0 l0.length c0] w fun e w' => ∃ v0_ : Value, e = .returned (.tuple #[v0_, .int .i64 r2]) ∧ Kd.R Kd.string 9 w' w.heap.size (fun _ => True) v0_ r1 ∧ Below w.heap.size w w' := by
 have HR0 := Aside0.mk hr0
 have HC0 := Aside0.mk hc0
 clear hr0 hc0
 have HB := Aside0.mk (Below.refl w.heap.size w)
 have H : (gristmillref03_Build.l0 k l0 0) = some (r1, r2) := h
 clear h
 have H' := Aside0.mk H
 clear H
 go_enter Try.func11, Try.ntmps11
 go_wp2
 repeat (go_quiet (fail); try go_wp2)
 go_loopg [5] k (fun kq v5 w' => ∃ (x5_1 : Int), v5 = .int .i64 x5_1 ∧ Aside0 (gristmillref03_Build.l0 kq l0 x5_1 = some (r1, r2)) ∧ Aside0 (kq ≤ k) ∧ Aside0 (Below w.heap.size w w'))
 case atStart => exact ⟨(0), (by first | rfl | (simp; done) | (simp [*]; done)), H', ⟨Nat.le_refl _⟩, ⟨by repeat (first | (with_reducible first | exact HB.out | apply below_alloc | apply pw_below_drewN | apply below_drew1) | exact HB.out)⟩⟩
 case round =>
  clear H'
  try clear c1
  obtain ⟨x5_1, rfl, HA, HK1, HB⟩ := hrel
  cases gk with
  | zero => exact absurd HA.out (by simp [gristmillref03_Build.l0])
  | succ k1 =>
   have H := HA.out
   clear HA
   simp only [gristmillref03_Build.l0] at H
   by_cases c2 : x5_1 < (l0.length : Int)
   ·rw [if_pos c2] at H
    have c2b0 : decide (x5_1 < (l0.length : Int)) = true := decide_eq_true c2
    clear c2
    by_cases c3 : 0 ≤ x5_1
    ·rw [if_pos c3] at H
     have c3b0 : decide (0 ≤ x5_1) = true := decide_eq_true c3
     clear c3
     by_cases c4 : ((rdOf ByteArray.empty l0 x5_1).size : Int) > 64
     ·rw [if_pos c4] at H
      have c4b0 : decide (64 < ((rdOf ByteArray.empty l0 x5_1).size : Int)) = true := decide_eq_true c4
      have c4b1 : decide (64 < (rdOf ByteArray.empty l0 x5_1).size) = true := decide_eq_true (by omega)
      clear c4
      simp only [Option.some.injEq, Prod.mk.injEq] at H
      obtain ⟨rfl, rfl⟩ := H
      have p102 : 0 ≤ (x5_1 : Int) := of_decide_eq_true (by assumption)
      have q102 : x5_1 < (l0.length : Int) := of_decide_eq_true (by assumption)
      obtain ⟨ad102, e102, hx102_0⟩ := Kd.at_string HR0.out x5_1 p102 q102
      cases e102
      replace hx102_0 := pw_cell_below HB.out hx102_0
      replace p102 := eq_true p102
      replace q102 := eq_true q102
      go_wp2
      repeat (go_quiet (fail); try go_wp2)
      go_ret2
      exact ⟨_, by first | rfl | (simp [errW_none, errW_some] <;> rfl) | (simp [*, errW_none, errW_some] <;> rfl), by first | exact Kd.R_nil _ _ _ _ _ | exact Kd.N_nil _ _ _ _ _ | exact Kd.V_nil _ _ _ _ _ | exact Kd.Q_nil _ _ _ _ _ | exact Kd.S_nil _ _ _ _ _, by repeat (first | (with_reducible first | exact HB.out | apply below_alloc | apply pw_below_drewN | apply below_drew1) | exact HB.out)⟩
     ·rw [if_neg c4] at H
      have c4b0 : decide (64 < ((rdOf ByteArray.empty l0 x5_1).size : Int)) = false := decide_eq_false c4
      have c4b1 : decide (64 < (rdOf ByteArray.empty l0 x5_1).size) = false := decide_eq_false (by omega)
      clear c4
      have H' := Aside0.mk H
      clear H
      have p102 : 0 ≤ (x5_1 : Int) := of_decide_eq_true (by assumption)
      have q102 : x5_1 < (l0.length : Int) := of_decide_eq_true (by assumption)
      obtain ⟨ad102, e102, hx102_0⟩ := Kd.at_string HR0.out x5_1 p102 q102
      cases e102
      replace hx102_0 := pw_cell_below HB.out hx102_0
      replace p102 := eq_true p102
      replace q102 := eq_true q102
      go_wp2
      repeat (go_quiet (fail); try go_wp2)
      go_roundg k1
      case measure => have := HK1.out; omega
      case rel => exact ⟨(wrap64 (x5_1 + 1)), (by first | rfl | (simp; done) | (simp [*]; done)), H', ⟨by have := HK1.out; omega⟩, ⟨by repeat (first | (with_reducible first | exact HB.out | apply below_alloc | apply pw_below_drewN | apply below_drew1) | exact HB.out)⟩⟩
    ·rw [if_neg c3] at H
     exact absurd H (by simp)
   ·rw [if_neg c2] at H
    have c2b0 : decide (x5_1 < (l0.length : Int)) = false := decide_eq_false c2
    clear c2
    have H' := Aside0.mk H
    clear H
    go_wp2
    repeat (go_quiet (fail); try go_wp2)
    go_loopg [4, 6] k1 (fun kq v4 v6 w' => ∃ (x4_2 : List ByteArray) (x6_2 : Int), v6 = .int .i64 x6_2 ∧ Aside0 (gristmillref03_Build.l1 kq l0 x4_2 x6_2 = some (r1, r2)) ∧ Aside0 (kq ≤ k1) ∧ Aside0 (Kd.R Kd.string 9 w' w.heap.size (fun _ => True) v4 x4_2) ∧ Aside0 (Below w.heap.size w w'))
    case atStart => exact ⟨(([] : List ByteArray)), (0), (by first | rfl | (simp; done) | (simp [*]; done)), H', ⟨Nat.le_refl _⟩, ⟨by first | exact Kd.R_nil _ _ _ _ _ | exact Kd.N_nil _ _ _ _ _ | exact Kd.V_nil _ _ _ _ _ | exact Kd.Q_nil _ _ _ _ _ | exact Kd.S_nil _ _ _ _ _⟩, ⟨by repeat (first | (with_reducible first | exact HB.out | apply below_alloc | apply pw_below_drewN | apply below_drew1) | exact HB.out)⟩⟩
    case round =>
     clear H'
     try clear c1
     try clear p1
     try clear q1
     try clear hx1
     try clear c2
     try clear c2b0
     try clear p2
     try clear c3
     try clear c3b0
     try clear c4
     try clear c4b0
     try clear c4b1
     try clear hx102_0
     try clear p102
     try clear q102
     obtain ⟨x4_2, x6_2, rfl, HA, HK2, HO_4, HB⟩ := hrel
     cases gk with
     | zero => exact absurd HA.out (by simp [gristmillref03_Build.l1])
     | succ k2 =>
      have H := HA.out
      clear HA
      simp only [gristmillref03_Build.l1] at H
      by_cases c5 : x6_2 < (l0.length : Int)
      ·rw [if_pos c5] at H
       have c5b0 : decide (x6_2 < (l0.length : Int)) = true := decide_eq_true c5
       clear c5
       by_cases c6 : 0 ≤ x6_2
       ·rw [if_pos c6] at H
        have c6b0 : decide (0 ≤ x6_2) = true := decide_eq_true c6
        clear c6
        replace H := Option.bind_eq_some_iff.mp H
        obtain ⟨t104, A70, H⟩ := H
        replace H : (if t104 < (x4_2.length : Int) then (if 0 ≤ t104 then (if (rdOf ByteArray.empty x4_2 t104).toList = (rdOf ByteArray.empty l0 x6_2).toList then (gristmillref03_Build.l1 k2 l0 x4_2 (wrap64 (x6_2 + 1))) else (if t104 ≤ (x4_2.length : Int) then ((some (x4_2.take (t104 : Int).toNat : List ByteArray)).bind fun y107 => (if ([] : List ByteArray).length + y107.length < 8796093022208 then ((some (([] : List ByteArray) ++ y107 : List ByteArray)).bind fun y111 => (if y111.length < 8796093022208 then ((some (y111 ++ [rdOf ByteArray.empty l0 x6_2] : List ByteArray)).bind fun y115 => ((some (x4_2.drop (t104 : Int).toNat : List ByteArray)).bind fun y118 => (if y115.length + y118.length < 8796093022208 then (gristmillref03_Build.l1 k2 l0 (y115 ++ y118) (wrap64 (x6_2 + 1))) else (none)))) else (none))) else (none))) else (none))) else (none)) else (if 0 ≤ t104 then (if t104 ≤ (x4_2.length : Int) then ((some (x4_2.take (t104 : Int).toNat : List ByteArray)).bind fun y125 => (if ([] : List ByteArray).length + y125.length < 8796093022208 then ((some (([] : List ByteArray) ++ y125 : List ByteArray)).bind fun y129 => (if y129.length < 8796093022208 then ((some (y129 ++ [rdOf ByteArray.empty l0 x6_2] : List ByteArray)).bind fun y133 => ((some (x4_2.drop (t104 : Int).toNat : List ByteArray)).bind fun y136 => (if y133.length + y136.length < 8796093022208 then (gristmillref03_Build.l1 k2 l0 (y133 ++ y136) (wrap64 (x6_2 + 1))) else (none)))) else (none))) else (none))) else (none)) else (none))) = some (r1, r2) := H
        have A7 := Aside0.mk A70
        clear A70
        by_cases c8 : t104 < (x4_2.length : Int)
        ·rw [if_pos c8] at H
         have c8b0 : decide (t104 < (x4_2.length : Int)) = true := decide_eq_true c8
         clear c8
         by_cases c9 : 0 ≤ t104
         ·rw [if_pos c9] at H
          have c9b0 : decide (0 ≤ t104) = true := decide_eq_true c9
          clear c9
          by_cases c10 : (rdOf ByteArray.empty x4_2 t104).toList = (rdOf ByteArray.empty l0 x6_2).toList
          ·rw [if_pos c10] at H
           have c10b0 : ((rdOf ByteArray.empty x4_2 t104).toList == (rdOf ByteArray.empty l0 x6_2).toList) = true := beq_iff_eq.mpr c10
           have c10b1 : ((rdOf ByteArray.empty x4_2 t104).toList != (rdOf ByteArray.empty l0 x6_2).toList) = false := bne_eq_false_iff_eq.mpr c10
           clear c10
           have H' := Aside0.mk H
           clear H
           have p103 : 0 ≤ (x6_2 : Int) := of_decide_eq_true (by assumption)
           have q103 : x6_2 < (l0.length : Int) := of_decide_eq_true (by assumption)
           obtain ⟨ad103, e103, hx103_0⟩ := Kd.at_string HR0.out x6_2 p103 q103
           cases e103
           replace hx103_0 := pw_cell_below HB.out hx103_0
           replace p103 := eq_true p103
           replace q103 := eq_true q103
           obtain ⟨Ao11, co11, eo11⟩ := Kd.R_slice HO_4.out
           subst eo11
           go_wp2_with (first | (go_at_call 27; (with_reducible refine (gristmillref03_From.calls k2 _ _ x4_2 (rdOf ByteArray.empty l0 x6_2) t104 _ ?side1 ?side2 A7.out).mono ?_); (case side1 => repeat (first | exact (Kd.R_reads' HO_4.out).2.2 | (with_reducible refine Kd.C_alloc ?_ _) | (with_reducible refine Kd.C_drewN ?_ _) | (with_reducible refine Kd.C_drew ?_))); (case side2 => exact (Kd.R_reads' HO_4.out).2.1); rintro e w' ⟨rfl, ⟨nd, rfl⟩⟩; (try first | exact ⟨rfl, _, World.drewN_drewN _ _ _⟩ | exact ⟨rfl, _, Eq.trans (World.drewN_drewN _ _ _) (congrArg (World.drewN _) (Nat.add_assoc _ _ _))⟩); have p105 : 0 ≤ (t104 : Int) := of_decide_eq_true (by assumption); have q105 : t104 < (x4_2.length : Int) := of_decide_eq_true (by assumption); obtain ⟨ad105, e105, hx105_0⟩ := Kd.at_string (Kd.R_reads' HO_4.out).2.2 t104 p105 q105; cases e105; replace p105 := eq_true p105; replace q105 := eq_true q105; have p106 : 0 ≤ (x6_2 : Int) := of_decide_eq_true (by assumption); have q106 : x6_2 < (l0.length : Int) := of_decide_eq_true (by assumption); obtain ⟨ad106, e106, hx106_0⟩ := Kd.at_string HR0.out x6_2 p106 q106; obtain rfl : ad103 = ad106 := (by injection e106); replace hx106_0 := pw_cell_below HB.out hx106_0; replace p106 := eq_true p106; replace q106 := eq_true q106))
           repeat (go_quiet (first | (go_at_call 27; (with_reducible refine (gristmillref03_From.calls k2 _ _ x4_2 (rdOf ByteArray.empty l0 x6_2) t104 _ ?side1 ?side2 A7.out).mono ?_); (case side1 => repeat (first | exact (Kd.R_reads' HO_4.out).2.2 | (with_reducible refine Kd.C_alloc ?_ _) | (with_reducible refine Kd.C_drewN ?_ _) | (with_reducible refine Kd.C_drew ?_))); (case side2 => exact (Kd.R_reads' HO_4.out).2.1); rintro e w' ⟨rfl, ⟨nd, rfl⟩⟩; (try first | exact ⟨rfl, _, World.drewN_drewN _ _ _⟩ | exact ⟨rfl, _, Eq.trans (World.drewN_drewN _ _ _) (congrArg (World.drewN _) (Nat.add_assoc _ _ _))⟩); have p105 : 0 ≤ (t104 : Int) := of_decide_eq_true (by assumption); have q105 : t104 < (x4_2.length : Int) := of_decide_eq_true (by assumption); obtain ⟨ad105, e105, hx105_0⟩ := Kd.at_string (Kd.R_reads' HO_4.out).2.2 t104 p105 q105; cases e105; replace p105 := eq_true p105; replace q105 := eq_true q105; have p106 : 0 ≤ (x6_2 : Int) := of_decide_eq_true (by assumption); have q106 : x6_2 < (l0.length : Int) := of_decide_eq_true (by assumption); obtain ⟨ad106, e106, hx106_0⟩ := Kd.at_string HR0.out x6_2 p106 q106; obtain rfl : ad103 = ad106 := (by injection e106); replace hx106_0 := pw_cell_below HB.out hx106_0; replace p106 := eq_true p106; replace q106 := eq_true q106)); try go_wp2_with (first | (go_at_call 27; (with_reducible refine (gristmillref03_From.calls k2 _ _ x4_2 (rdOf ByteArray.empty l0 x6_2) t104 _ ?side1 ?side2 A7.out).mono ?_); (case side1 => repeat (first | exact (Kd.R_reads' HO_4.out).2.2 | (with_reducible refine Kd.C_alloc ?_ _) | (with_reducible refine Kd.C_drewN ?_ _) | (with_reducible refine Kd.C_drew ?_))); (case side2 => exact (Kd.R_reads' HO_4.out).2.1); rintro e w' ⟨rfl, ⟨nd, rfl⟩⟩; (try first | exact ⟨rfl, _, World.drewN_drewN _ _ _⟩ | exact ⟨rfl, _, Eq.trans (World.drewN_drewN _ _ _) (congrArg (World.drewN _) (Nat.add_assoc _ _ _))⟩); have p105 : 0 ≤ (t104 : Int) := of_decide_eq_true (by assumption); have q105 : t104 < (x4_2.length : Int) := of_decide_eq_true (by assumption); obtain ⟨ad105, e105, hx105_0⟩ := Kd.at_string (Kd.R_reads' HO_4.out).2.2 t104 p105 q105; cases e105; replace p105 := eq_true p105; replace q105 := eq_true q105; have p106 : 0 ≤ (x6_2 : Int) := of_decide_eq_true (by assumption); have q106 : x6_2 < (l0.length : Int) := of_decide_eq_true (by assumption); obtain ⟨ad106, e106, hx106_0⟩ := Kd.at_string HR0.out x6_2 p106 q106; obtain rfl : ad103 = ad106 := (by injection e106); replace hx106_0 := pw_cell_below HB.out hx106_0; replace p106 := eq_true p106; replace q106 := eq_true q106)))
           go_roundg k2
           case measure => have := HK1.out; have := HK2.out; omega
           case rel => exact ⟨(x4_2), (wrap64 (x6_2 + 1)), (by first | rfl | (simp; done) | (simp [*]; done)), H', ⟨by have := HK1.out; have := HK2.out; omega⟩, ⟨by (with_reducible repeat (first | apply Kd.R_alloc | apply Kd.R_drewN | apply Kd.R_drew)); exact HO_4.out⟩, ⟨by repeat (first | (with_reducible first | exact HB.out | apply below_alloc | apply pw_below_drewN | apply below_drew1) | exact HB.out)⟩⟩
          ·rw [if_neg c10] at H
           have c10b0 : ((rdOf ByteArray.empty x4_2 t104).toList == (rdOf ByteArray.empty l0 x6_2).toList) = false := beq_eq_false_iff_ne.mpr c10
           have c10b1 : ((rdOf ByteArray.empty x4_2 t104).toList != (rdOf ByteArray.empty l0 x6_2).toList) = true := bne_iff_ne.mpr c10
           have c12b0 := eq_true (of_decide_eq_true (by assumption) : 0 ≤ t104)
           by_cases c13 : t104 ≤ (x4_2.length : Int)
           ·rw [if_pos c13] at H
            have c13b0 := eq_true c13
            have c13b1 : decide (t104 ≤ (x4_2.length : Int)) = true := decide_eq_true c13
            clear c13
            obtain ⟨y107, hy107⟩ : ∃ y_ : List ByteArray, y_ = (x4_2.take (t104 : Int).toNat) := ⟨_, rfl⟩
            replace H : (if ([] : List ByteArray).length + y107.length < 8796093022208 then ((some (([] : List ByteArray) ++ y107 : List ByteArray)).bind fun y111 => (if y111.length < 8796093022208 then ((some (y111 ++ [rdOf ByteArray.empty l0 x6_2] : List ByteArray)).bind fun y115 => ((some (x4_2.drop (t104 : Int).toNat : List ByteArray)).bind fun y118 => (if y115.length + y118.length < 8796093022208 then (gristmillref03_Build.l1 k2 l0 (y115 ++ y118) (wrap64 (x6_2 + 1))) else (none)))) else (none))) else (none)) = some (r1, r2) := by first | (rw [hy107]; with_reducible exact H) | (have H2_ := (Option.bind_some _ _).symm.trans H; rw [hy107]; with_reducible exact H2_) | (have H2_ := (Option.bind_some _ _).symm.trans H; with_reducible exact H2_) | with_reducible exact H | (rw [hy107]; exact H) | exact H
            have Ny107 := Aside0.mk hy107
            clear hy107
            by_cases c14 : ([] : List ByteArray).length + y107.length < 8796093022208
            ·rw [if_pos c14] at H
             have LMc14 := Aside0.mk c14
             clear c14
             obtain ⟨y111, hy111⟩ : ∃ y_ : List ByteArray, y_ = (([] : List ByteArray) ++ y107) := ⟨_, rfl⟩
             replace H : (if y111.length < 8796093022208 then ((some (y111 ++ [rdOf ByteArray.empty l0 x6_2] : List ByteArray)).bind fun y115 => ((some (x4_2.drop (t104 : Int).toNat : List ByteArray)).bind fun y118 => (if y115.length + y118.length < 8796093022208 then (gristmillref03_Build.l1 k2 l0 (y115 ++ y118) (wrap64 (x6_2 + 1))) else (none)))) else (none)) = some (r1, r2) := by first | (rw [hy111]; with_reducible exact H) | (have H2_ := (Option.bind_some _ _).symm.trans H; rw [hy111]; with_reducible exact H2_) | (have H2_ := (Option.bind_some _ _).symm.trans H; with_reducible exact H2_) | with_reducible exact H | (rw [hy111]; exact H) | exact H
             have Ny111 := Aside0.mk hy111
             clear hy111
             by_cases c15 : y111.length < 8796093022208
             ·rw [if_pos c15] at H
              have LMc15 := Aside0.mk c15
              clear c15
              obtain ⟨y115, hy115⟩ : ∃ y_ : List ByteArray, y_ = (y111 ++ [rdOf ByteArray.empty l0 x6_2]) := ⟨_, rfl⟩
              replace H : ((some (x4_2.drop (t104 : Int).toNat : List ByteArray)).bind fun y118 => (if y115.length + y118.length < 8796093022208 then (gristmillref03_Build.l1 k2 l0 (y115 ++ y118) (wrap64 (x6_2 + 1))) else (none))) = some (r1, r2) := by first | (rw [hy115]; with_reducible exact H) | (have H2_ := (Option.bind_some _ _).symm.trans H; rw [hy115]; with_reducible exact H2_) | (have H2_ := (Option.bind_some _ _).symm.trans H; with_reducible exact H2_) | with_reducible exact H | (rw [hy115]; exact H) | exact H
              have Ny115 := Aside0.mk hy115
              clear hy115
              have c16b0 := eq_true (of_decide_eq_true (by assumption) : 0 ≤ t104)
              have c17b0 := eq_true (of_decide_eq_true (by assumption) : t104 ≤ (x4_2.length : Int))
              obtain ⟨y118, hy118⟩ : ∃ y_ : List ByteArray, y_ = (x4_2.drop (t104 : Int).toNat) := ⟨_, rfl⟩
              replace H : (if y115.length + y118.length < 8796093022208 then (gristmillref03_Build.l1 k2 l0 (y115 ++ y118) (wrap64 (x6_2 + 1))) else (none)) = some (r1, r2) := by first | (rw [hy118]; with_reducible exact H) | (have H2_ := (Option.bind_some _ _).symm.trans H; rw [hy118]; with_reducible exact H2_) | (have H2_ := (Option.bind_some _ _).symm.trans H; with_reducible exact H2_) | with_reducible exact H | (rw [hy118]; exact H) | exact H
              have Ny118 := Aside0.mk hy118
              clear hy118
              by_cases c18 : y115.length + y118.length < 8796093022208
              ·rw [if_pos c18] at H
               have LMc18 := Aside0.mk c18
               clear c18
               obtain ⟨y122, hy122⟩ : ∃ y_ : List ByteArray, y_ = (y115 ++ y118) := ⟨_, rfl⟩
               replace H : (gristmillref03_Build.l1 k2 l0 y122 (wrap64 (x6_2 + 1))) = some (r1, r2) := by first | (rw [hy122]; with_reducible exact H) | (have H2_ := (Option.bind_some _ _).symm.trans H; rw [hy122]; with_reducible exact H2_) | (have H2_ := (Option.bind_some _ _).symm.trans H; with_reducible exact H2_) | with_reducible exact H | (rw [hy122]; exact H) | exact H
               have Ny122 := Aside0.mk hy122
               clear hy122
               have H' := Aside0.mk H
               clear H
               have p103 : 0 ≤ (x6_2 : Int) := of_decide_eq_true (by assumption)
               have q103 : x6_2 < (l0.length : Int) := of_decide_eq_true (by assumption)
               obtain ⟨ad103, e103, hx103_0⟩ := Kd.at_string HR0.out x6_2 p103 q103
               cases e103
               replace hx103_0 := pw_cell_below HB.out hx103_0
               replace p103 := eq_true p103
               replace q103 := eq_true q103
               obtain ⟨Ao19, co19, eo19⟩ := Kd.R_slice HO_4.out
               subst eo19
               go_wp2_with (first | (go_at_call 27; (with_reducible refine (gristmillref03_From.calls k2 _ _ x4_2 (rdOf ByteArray.empty l0 x6_2) t104 _ ?side1 ?side2 A7.out).mono ?_); (case side1 => repeat (first | exact (Kd.R_reads' HO_4.out).2.2 | (with_reducible refine Kd.C_alloc ?_ _) | (with_reducible refine Kd.C_drewN ?_ _) | (with_reducible refine Kd.C_drew ?_))); (case side2 => exact (Kd.R_reads' HO_4.out).2.1); rintro e w' ⟨rfl, ⟨nd, rfl⟩⟩; (try first | exact ⟨rfl, _, World.drewN_drewN _ _ _⟩ | exact ⟨rfl, _, Eq.trans (World.drewN_drewN _ _ _) (congrArg (World.drewN _) (Nat.add_assoc _ _ _))⟩); have p105 : 0 ≤ (t104 : Int) := of_decide_eq_true (by assumption); have q105 : t104 < (x4_2.length : Int) := of_decide_eq_true (by assumption); obtain ⟨ad105, e105, hx105_0⟩ := Kd.at_string (Kd.R_reads' HO_4.out).2.2 t104 p105 q105; cases e105; replace p105 := eq_true p105; replace q105 := eq_true q105; have p106 : 0 ≤ (x6_2 : Int) := of_decide_eq_true (by assumption); have q106 : x6_2 < (l0.length : Int) := of_decide_eq_true (by assumption); obtain ⟨ad106, e106, hx106_0⟩ := Kd.at_string HR0.out x6_2 p106 q106; obtain rfl : ad103 = ad106 := (by injection e106); replace hx106_0 := pw_cell_below HB.out hx106_0; replace p106 := eq_true p106; replace q106 := eq_true q106; have q20 : (t104 : Int) ≤ ((x4_2.length : Int) : Int) := of_decide_eq_true (by assumption); obtain ⟨i020, hi020, _, hsz20, _⟩ := info_parts info9; have hroom20 : x4_2.length ≤ co19 := (Kd.R_reads' HO_4.out).2.1; have hC20 : Kd.C Kd.string _ (some ad105) x4_2.length x4_2 := (Kd.R_reads' HO_4.out).2.2; have hcut20 := cut_to (P := Try.prog) 22 9 .i64 Try.underlying22 hi020 (some ad105) x4_2.length co19 t104 (of_decide_eq_true (by assumption)) q20 hroom20; have hr20 := Kd.C_take (m := (t104 : Int).toNat) hC20 (by omega); have hy20 : y107.length = (t104 : Int).toNat := (by rw [Ny107.out, List.length_take]; omega); rw [← Ny107.out] at hr20; rw [← hy20] at hcut20; have HR110 := Aside0.mk hr20; have HC110 := Aside0.mk (show y107.length ≤ co19 from by omega); clear hr20 hC20 hroom20 hi020 hsz20; have KY20 := Aside0.mk hy20; clear hy20; have KL20 := Aside0.mk (show (t104 : Int).toNat ≤ x4_2.length from by omega); replace q20 := eq_true q20) | ((with_reducible refine gate_builtin (b := .append) (xs := #[.tmp 48, .tmp 51]) rfl ?_); at_builtin; refine Kd.R_append_rows Kd.string (w0 := w) w.heap.size rfl (.tmp 48) (.tmp 51) 22 9 (.string ⟨#[]⟩) 16 rfl Try.underlying22 info9 rfl (by decide) (by omega) (.slice none 0 0) ([] : List ByteArray) y107 _ _ _ (fun k_ => some k_ ≠ (.slice (some ad105) x4_2.length co19 : Value).ownBlock) (fun _ => False) rfl rfl ?aO ?aR (fun _ _ h => h) (fun _ h => h.elim) ?aF ?aB ?aS ?aL ?_; (case aR => repeat (first | exact (by repeat (first | (with_reducible exact HR110.out) | (with_reducible refine Kd.C_alloc ?_ _) | (with_reducible refine Kd.C_drewN ?_ _) | (with_reducible refine Kd.C_drew ?_) | exact HR110.out)) | (with_reducible refine Kd.C_alloc ?_ _) | (with_reducible refine Kd.C_drewN ?_ _) | (with_reducible refine Kd.C_drew ?_))); (case aB => exact (bw_ HB.out)); (case aF => exact (fun k_ hk => Kd.fresh' (Kd.R_lt (by (with_reducible repeat (first | apply Kd.R_alloc | apply Kd.R_drewN | apply Kd.R_drew)); exact HO_4.out)) k_ hk)); (case aO => exact ((Kd.R_nil _ _ _ _ (fun k_ => some k_ ≠ (.slice (some ad105) x4_2.length co19 : Value).ownBlock)))); (case aS => exact (below_size (bw_ HB.out))); (case aL => have := LMc14.out; omega); intro v112 w21 ho hb hg hat; rw [← Ny111.out] at ho; have n0_ := Aside0.mk (Kd.R_after (Kd.R_apart_nil (by (with_reducible repeat (first | apply Kd.R_alloc | apply Kd.R_drewN | apply Kd.R_drew)); exact HO_4.out)) hg hat); have n1_ := Aside0.mk (hb); have n2_ := Aside0.mk ((show Kd.C Kd.string w21 (some ad105) y107.length y107 from by rw [Ny107.out]; exact Kd.C_take (m := (t104 : Int).toNat) ((Kd.R_reads' (Kd.R_after (Kd.R_apart_nil (by (with_reducible repeat (first | apply Kd.R_alloc | apply Kd.R_drewN | apply Kd.R_drew)); exact HO_4.out)) hg hat)).2.2) KL20.out)); have n3_ := Aside0.mk (ho); clear HO_4 HB HR110; have HO_4 := n0_; have HB := n1_; have HR110 := n2_; have HO113 := n3_; clear n0_ n1_ n2_ n3_; clear ho hb hg hat; have p114 : 0 ≤ (x6_2 : Int) := of_decide_eq_true (by assumption); have q114 : x6_2 < (l0.length : Int) := of_decide_eq_true (by assumption); obtain ⟨ad114, e114, hx114_0⟩ := Kd.at_string HR0.out x6_2 p114 q114; obtain rfl : ad103 = ad114 := (by injection e114); replace hx114_0 := pw_cell_below HB.out hx114_0; replace p114 := eq_true p114; replace q114 := eq_true q114) | ((with_reducible refine gate_builtin (b := .append) (xs := #[.tmp 53, .tmp 58]) rfl ?_); at_builtin; refine Kd.R_append Kd.string (w0 := w) w.heap.size rfl (.tmp 53) (.tmp 58) 22 9 (.string ⟨#[]⟩) 16 rfl Try.underlying22 info9 rfl (by decide) (by omega) v112 y111 (rdOf ByteArray.empty l0 x6_2) [.string (rdOf ByteArray.empty l0 x6_2)] (fun k_ => some k_ ≠ (.slice (some ad105) x4_2.length co19 : Value).ownBlock) (fun _ => False) rfl rfl ?aP (fun _ hk => hk.elim) ?aF ?aO ?aB ?aS ?aL ?_; (case aP => exact rfl); (case aB => exact (bw_ HB.out)); (case aF => exact (fun k_ hk => Kd.fresh' (Kd.R_lt (by (with_reducible repeat (first | apply Kd.R_alloc | apply Kd.R_drewN | apply Kd.R_drew)); exact HO_4.out)) k_ hk)); (case aO => exact (by (with_reducible repeat (first | apply Kd.R_alloc | apply Kd.R_drewN | apply Kd.R_drew)); exact HO113.out)); (case aS => exact (below_size (bw_ HB.out))); (case aL => have := LMc15.out; omega); intro v116 w22 ho hb hg hat; rw [← Ny115.out] at ho; have n0_ := Aside0.mk (Kd.R_after (ok := (fun _ => True)) (by (with_reducible repeat (first | apply Kd.R_alloc | apply Kd.R_drewN | apply Kd.R_drew)); exact HO_4.out) hg hat); have n1_ := Aside0.mk (hb); have n2_ := Aside0.mk ((show Kd.C Kd.string w22 (some ad105) y107.length y107 from by rw [Ny107.out]; exact Kd.C_take (m := (t104 : Int).toNat) ((Kd.R_reads' (Kd.R_after (ok := (fun _ => True)) (by (with_reducible repeat (first | apply Kd.R_alloc | apply Kd.R_drewN | apply Kd.R_drew)); exact HO_4.out) hg hat)).2.2) KL20.out)); have n3_ := Aside0.mk (ho); clear HO_4 HB HR110 HO113; have HO_4 := n0_; have HB := n1_; have HR110 := n2_; have HO117 := n3_; clear n0_ n1_ n2_ n3_; clear ho hb hg hat; have q23 : (t104 : Int) ≤ ((x4_2.length : Int) : Int) := of_decide_eq_true (by assumption); obtain ⟨i023, hi023, _, hsz23, _⟩ := info_parts info9; have hroom23 : x4_2.length ≤ co19 := (Kd.R_reads' HO_4.out).2.1; have hC23 : Kd.C Kd.string _ (some ad105) x4_2.length x4_2 := (Kd.R_reads' HO_4.out).2.2; have q023 : (0 : Int) ≤ (t104 : Int) := of_decide_eq_true (by assumption); have hcut23 := cut_from (P := Try.prog) 22 9 .i64 Try.underlying22 hi023 1 hsz23 (some ad105) x4_2.length co19 t104 q023 q23; have hr23 := Kd.C_drop (m := (t104 : Int).toNat) (c := co19) hC23 (by omega) hroom23; obtain ⟨A23, hA23⟩ : ∃ A1, A1 = (if co19 = (t104 : Int).toNat then (some ad105) else ((some ad105) : Option Addr).map (·.add ((t104 : Int).toNat * 1))) := ⟨_, rfl⟩; obtain ⟨c23, hc23⟩ : ∃ c1, c1 = co19 - (t104 : Int).toNat := ⟨_, rfl⟩; have hy23 : y118.length = x4_2.length - (t104 : Int).toNat := (by rw [Ny118.out, List.length_drop] <;> omega); rw [show (x4_2).drop (t104 : Int).toNat = y118 from Ny118.out.symm] at hr23; replace hr23 : Kd.C Kd.string _ A23 y118.length y118 := (by rw [hA23]; exact hr23); rw [← hy23, ← hA23, ← hc23] at hcut23; have HR121 := Aside0.mk hr23; have HC121 := Aside0.mk (show y118.length ≤ c23 from by rw [hy23, hc23]; exact Nat.sub_le_sub_right hroom23 _); clear hr23 hC23 hroom23 hi023 hsz23 hc23; have KY23 := Aside0.mk hy23; have KA23 := Aside0.mk hA23; clear hy23 hA23; have KL23 := Aside0.mk (show (t104 : Int).toNat ≤ x4_2.length from by omega); replace q23 := eq_true q23) | ((with_reducible refine gate_builtin (b := .append) (xs := #[.tmp 60, .tmp 63]) rfl ?_); at_builtin; refine Kd.R_append_rows Kd.string (w0 := w) w.heap.size rfl (.tmp 60) (.tmp 63) 22 9 (.string ⟨#[]⟩) 16 rfl Try.underlying22 info9 rfl (by decide) (by omega) v116 y115 y118 _ _ _ (fun k_ => some k_ ≠ (.slice (some ad105) x4_2.length co19 : Value).ownBlock) (fun _ => False) rfl rfl ?aO ?aR (fun _ _ h => h) (fun _ h => h.elim) ?aF ?aB ?aS ?aL ?_; (case aR => repeat (first | exact (by repeat (first | (with_reducible exact HR121.out) | (with_reducible refine Kd.C_alloc ?_ _) | (with_reducible refine Kd.C_drewN ?_ _) | (with_reducible refine Kd.C_drew ?_) | exact HR121.out)) | (with_reducible refine Kd.C_alloc ?_ _) | (with_reducible refine Kd.C_drewN ?_ _) | (with_reducible refine Kd.C_drew ?_))); (case aB => exact (bw_ HB.out)); (case aF => exact (fun k_ hk => Kd.fresh' (Kd.R_lt (by (with_reducible repeat (first | apply Kd.R_alloc | apply Kd.R_drewN | apply Kd.R_drew)); exact HO_4.out)) k_ hk)); (case aO => exact (by (with_reducible repeat (first | apply Kd.R_alloc | apply Kd.R_drewN | apply Kd.R_drew)); exact HO117.out)); (case aS => exact (below_size (bw_ HB.out))); (case aL => have := LMc18.out; omega); intro v123 w24 ho hb hg hat; rw [← Ny122.out] at ho; have n0_ := Aside0.mk (Kd.R_after (ok := (fun _ => True)) (by (with_reducible repeat (first | apply Kd.R_alloc | apply Kd.R_drewN | apply Kd.R_drew)); exact HO_4.out) hg hat); have n1_ := Aside0.mk (hb); have n2_ := Aside0.mk ((show Kd.C Kd.string w24 (some ad105) y107.length y107 from by rw [Ny107.out]; exact Kd.C_take (m := (t104 : Int).toNat) ((Kd.R_reads' (Kd.R_after (ok := (fun _ => True)) (by (with_reducible repeat (first | apply Kd.R_alloc | apply Kd.R_drewN | apply Kd.R_drew)); exact HO_4.out) hg hat)).2.2) KL20.out)); have n3_ := Aside0.mk ((show Kd.C Kd.string w24 A23 y118.length y118 from by rw [Ny118.out, KA23.out]; exact Kd.C_drop (m := (t104 : Int).toNat) (c := co19) ((Kd.R_reads' (Kd.R_after (ok := (fun _ => True)) (by (with_reducible repeat (first | apply Kd.R_alloc | apply Kd.R_drewN | apply Kd.R_drew)); exact HO_4.out) hg hat)).2.2) KL23.out ((Kd.R_reads' (Kd.R_after (ok := (fun _ => True)) (by (with_reducible repeat (first | apply Kd.R_alloc | apply Kd.R_drewN | apply Kd.R_drew)); exact HO_4.out) hg hat)).2.1))); have n4_ := Aside0.mk (ho); clear HO_4 HB HR110 HR121 HO117; have HO_4 := n0_; have HB := n1_; have HR110 := n2_; have HR121 := n3_; have HO124 := n4_; clear n0_ n1_ n2_ n3_ n4_; clear ho hb hg hat))
               repeat (go_quiet (first | (go_at_call 27; (with_reducible refine (gristmillref03_From.calls k2 _ _ x4_2 (rdOf ByteArray.empty l0 x6_2) t104 _ ?side1 ?side2 A7.out).mono ?_); (case side1 => repeat (first | exact (Kd.R_reads' HO_4.out).2.2 | (with_reducible refine Kd.C_alloc ?_ _) | (with_reducible refine Kd.C_drewN ?_ _) | (with_reducible refine Kd.C_drew ?_))); (case side2 => exact (Kd.R_reads' HO_4.out).2.1); rintro e w' ⟨rfl, ⟨nd, rfl⟩⟩; (try first | exact ⟨rfl, _, World.drewN_drewN _ _ _⟩ | exact ⟨rfl, _, Eq.trans (World.drewN_drewN _ _ _) (congrArg (World.drewN _) (Nat.add_assoc _ _ _))⟩); have p105 : 0 ≤ (t104 : Int) := of_decide_eq_true (by assumption); have q105 : t104 < (x4_2.length : Int) := of_decide_eq_true (by assumption); obtain ⟨ad105, e105, hx105_0⟩ := Kd.at_string (Kd.R_reads' HO_4.out).2.2 t104 p105 q105; cases e105; replace p105 := eq_true p105; replace q105 := eq_true q105; have p106 : 0 ≤ (x6_2 : Int) := of_decide_eq_true (by assumption); have q106 : x6_2 < (l0.length : Int) := of_decide_eq_true (by assumption); obtain ⟨ad106, e106, hx106_0⟩ := Kd.at_string HR0.out x6_2 p106 q106; obtain rfl : ad103 = ad106 := (by injection e106); replace hx106_0 := pw_cell_below HB.out hx106_0; replace p106 := eq_true p106; replace q106 := eq_true q106; have q20 : (t104 : Int) ≤ ((x4_2.length : Int) : Int) := of_decide_eq_true (by assumption); obtain ⟨i020, hi020, _, hsz20, _⟩ := info_parts info9; have hroom20 : x4_2.length ≤ co19 := (Kd.R_reads' HO_4.out).2.1; have hC20 : Kd.C Kd.string _ (some ad105) x4_2.length x4_2 := (Kd.R_reads' HO_4.out).2.2; have hcut20 := cut_to (P := Try.prog) 22 9 .i64 Try.underlying22 hi020 (some ad105) x4_2.length co19 t104 (of_decide_eq_true (by assumption)) q20 hroom20; have hr20 := Kd.C_take (m := (t104 : Int).toNat) hC20 (by omega); have hy20 : y107.length = (t104 : Int).toNat := (by rw [Ny107.out, List.length_take]; omega); rw [← Ny107.out] at hr20; rw [← hy20] at hcut20; have HR110 := Aside0.mk hr20; have HC110 := Aside0.mk (show y107.length ≤ co19 from by omega); clear hr20 hC20 hroom20 hi020 hsz20; have KY20 := Aside0.mk hy20; clear hy20; have KL20 := Aside0.mk (show (t104 : Int).toNat ≤ x4_2.length from by omega); replace q20 := eq_true q20) | ((with_reducible refine gate_builtin (b := .append) (xs := #[.tmp 48, .tmp 51]) rfl ?_); at_builtin; refine Kd.R_append_rows Kd.string (w0 := w) w.heap.size rfl (.tmp 48) (.tmp 51) 22 9 (.string ⟨#[]⟩) 16 rfl Try.underlying22 info9 rfl (by decide) (by omega) (.slice none 0 0) ([] : List ByteArray) y107 _ _ _ (fun k_ => some k_ ≠ (.slice (some ad105) x4_2.length co19 : Value).ownBlock) (fun _ => False) rfl rfl ?aO ?aR (fun _ _ h => h) (fun _ h => h.elim) ?aF ?aB ?aS ?aL ?_; (case aR => repeat (first | exact (by repeat (first | (with_reducible exact HR110.out) | (with_reducible refine Kd.C_alloc ?_ _) | (with_reducible refine Kd.C_drewN ?_ _) | (with_reducible refine Kd.C_drew ?_) | exact HR110.out)) | (with_reducible refine Kd.C_alloc ?_ _) | (with_reducible refine Kd.C_drewN ?_ _) | (with_reducible refine Kd.C_drew ?_))); (case aB => exact (bw_ HB.out)); (case aF => exact (fun k_ hk => Kd.fresh' (Kd.R_lt (by (with_reducible repeat (first | apply Kd.R_alloc | apply Kd.R_drewN | apply Kd.R_drew)); exact HO_4.out)) k_ hk)); (case aO => exact ((Kd.R_nil _ _ _ _ (fun k_ => some k_ ≠ (.slice (some ad105) x4_2.length co19 : Value).ownBlock)))); (case aS => exact (below_size (bw_ HB.out))); (case aL => have := LMc14.out; omega); intro v112 w21 ho hb hg hat; rw [← Ny111.out] at ho; have n0_ := Aside0.mk (Kd.R_after (Kd.R_apart_nil (by (with_reducible repeat (first | apply Kd.R_alloc | apply Kd.R_drewN | apply Kd.R_drew)); exact HO_4.out)) hg hat); have n1_ := Aside0.mk (hb); have n2_ := Aside0.mk ((show Kd.C Kd.string w21 (some ad105) y107.length y107 from by rw [Ny107.out]; exact Kd.C_take (m := (t104 : Int).toNat) ((Kd.R_reads' (Kd.R_after (Kd.R_apart_nil (by (with_reducible repeat (first | apply Kd.R_alloc | apply Kd.R_drewN | apply Kd.R_drew)); exact HO_4.out)) hg hat)).2.2) KL20.out)); have n3_ := Aside0.mk (ho); clear HO_4 HB HR110; have HO_4 := n0_; have HB := n1_; have HR110 := n2_; have HO113 := n3_; clear n0_ n1_ n2_ n3_; clear ho hb hg hat; have p114 : 0 ≤ (x6_2 : Int) := of_decide_eq_true (by assumption); have q114 : x6_2 < (l0.length : Int) := of_decide_eq_true (by assumption); obtain ⟨ad114, e114, hx114_0⟩ := Kd.at_string HR0.out x6_2 p114 q114; obtain rfl : ad103 = ad114 := (by injection e114); replace hx114_0 := pw_cell_below HB.out hx114_0; replace p114 := eq_true p114; replace q114 := eq_true q114) | ((with_reducible refine gate_builtin (b := .append) (xs := #[.tmp 53, .tmp 58]) rfl ?_); at_builtin; refine Kd.R_append Kd.string (w0 := w) w.heap.size rfl (.tmp 53) (.tmp 58) 22 9 (.string ⟨#[]⟩) 16 rfl Try.underlying22 info9 rfl (by decide) (by omega) v112 y111 (rdOf ByteArray.empty l0 x6_2) [.string (rdOf ByteArray.empty l0 x6_2)] (fun k_ => some k_ ≠ (.slice (some ad105) x4_2.length co19 : Value).ownBlock) (fun _ => False) rfl rfl ?aP (fun _ hk => hk.elim) ?aF ?aO ?aB ?aS ?aL ?_; (case aP => exact rfl); (case aB => exact (bw_ HB.out)); (case aF => exact (fun k_ hk => Kd.fresh' (Kd.R_lt (by (with_reducible repeat (first | apply Kd.R_alloc | apply Kd.R_drewN | apply Kd.R_drew)); exact HO_4.out)) k_ hk)); (case aO => exact (by (with_reducible repeat (first | apply Kd.R_alloc | apply Kd.R_drewN | apply Kd.R_drew)); exact HO113.out)); (case aS => exact (below_size (bw_ HB.out))); (case aL => have := LMc15.out; omega); intro v116 w22 ho hb hg hat; rw [← Ny115.out] at ho; have n0_ := Aside0.mk (Kd.R_after (ok := (fun _ => True)) (by (with_reducible repeat (first | apply Kd.R_alloc | apply Kd.R_drewN | apply Kd.R_drew)); exact HO_4.out) hg hat); have n1_ := Aside0.mk (hb); have n2_ := Aside0.mk ((show Kd.C Kd.string w22 (some ad105) y107.length y107 from by rw [Ny107.out]; exact Kd.C_take (m := (t104 : Int).toNat) ((Kd.R_reads' (Kd.R_after (ok := (fun _ => True)) (by (with_reducible repeat (first | apply Kd.R_alloc | apply Kd.R_drewN | apply Kd.R_drew)); exact HO_4.out) hg hat)).2.2) KL20.out)); have n3_ := Aside0.mk (ho); clear HO_4 HB HR110 HO113; have HO_4 := n0_; have HB := n1_; have HR110 := n2_; have HO117 := n3_; clear n0_ n1_ n2_ n3_; clear ho hb hg hat; have q23 : (t104 : Int) ≤ ((x4_2.length : Int) : Int) := of_decide_eq_true (by assumption); obtain ⟨i023, hi023, _, hsz23, _⟩ := info_parts info9; have hroom23 : x4_2.length ≤ co19 := (Kd.R_reads' HO_4.out).2.1; have hC23 : Kd.C Kd.string _ (some ad105) x4_2.length x4_2 := (Kd.R_reads' HO_4.out).2.2; have q023 : (0 : Int) ≤ (t104 : Int) := of_decide_eq_true (by assumption); have hcut23 := cut_from (P := Try.prog) 22 9 .i64 Try.underlying22 hi023 1 hsz23 (some ad105) x4_2.length co19 t104 q023 q23; have hr23 := Kd.C_drop (m := (t104 : Int).toNat) (c := co19) hC23 (by omega) hroom23; obtain ⟨A23, hA23⟩ : ∃ A1, A1 = (if co19 = (t104 : Int).toNat then (some ad105) else ((some ad105) : Option Addr).map (·.add ((t104 : Int).toNat * 1))) := ⟨_, rfl⟩; obtain ⟨c23, hc23⟩ : ∃ c1, c1 = co19 - (t104 : Int).toNat := ⟨_, rfl⟩; have hy23 : y118.length = x4_2.length - (t104 : Int).toNat := (by rw [Ny118.out, List.length_drop] <;> omega); rw [show (x4_2).drop (t104 : Int).toNat = y118 from Ny118.out.symm] at hr23; replace hr23 : Kd.C Kd.string _ A23 y118.length y118 := (by rw [hA23]; exact hr23); rw [← hy23, ← hA23, ← hc23] at hcut23; have HR121 := Aside0.mk hr23; have HC121 := Aside0.mk (show y118.length ≤ c23 from by rw [hy23, hc23]; exact Nat.sub_le_sub_right hroom23 _); clear hr23 hC23 hroom23 hi023 hsz23 hc23; have KY23 := Aside0.mk hy23; have KA23 := Aside0.mk hA23; clear hy23 hA23; have KL23 := Aside0.mk (show (t104 : Int).toNat ≤ x4_2.length from by omega); replace q23 := eq_true q23) | ((with_reducible refine gate_builtin (b := .append) (xs := #[.tmp 60, .tmp 63]) rfl ?_); at_builtin; refine Kd.R_append_rows Kd.string (w0 := w) w.heap.size rfl (.tmp 60) (.tmp 63) 22 9 (.string ⟨#[]⟩) 16 rfl Try.underlying22 info9 rfl (by decide) (by omega) v116 y115 y118 _ _ _ (fun k_ => some k_ ≠ (.slice (some ad105) x4_2.length co19 : Value).ownBlock) (fun _ => False) rfl rfl ?aO ?aR (fun _ _ h => h) (fun _ h => h.elim) ?aF ?aB ?aS ?aL ?_; (case aR => repeat (first | exact (by repeat (first | (with_reducible exact HR121.out) | (with_reducible refine Kd.C_alloc ?_ _) | (with_reducible refine Kd.C_drewN ?_ _) | (with_reducible refine Kd.C_drew ?_) | exact HR121.out)) | (with_reducible refine Kd.C_alloc ?_ _) | (with_reducible refine Kd.C_drewN ?_ _) | (with_reducible refine Kd.C_drew ?_))); (case aB => exact (bw_ HB.out)); (case aF => exact (fun k_ hk => Kd.fresh' (Kd.R_lt (by (with_reducible repeat (first | apply Kd.R_alloc | apply Kd.R_drewN | apply Kd.R_drew)); exact HO_4.out)) k_ hk)); (case aO => exact (by (with_reducible repeat (first | apply Kd.R_alloc | apply Kd.R_drewN | apply Kd.R_drew)); exact HO117.out)); (case aS => exact (below_size (bw_ HB.out))); (case aL => have := LMc18.out; omega); intro v123 w24 ho hb hg hat; rw [← Ny122.out] at ho; have n0_ := Aside0.mk (Kd.R_after (ok := (fun _ => True)) (by (with_reducible repeat (first | apply Kd.R_alloc | apply Kd.R_drewN | apply Kd.R_drew)); exact HO_4.out) hg hat); have n1_ := Aside0.mk (hb); have n2_ := Aside0.mk ((show Kd.C Kd.string w24 (some ad105) y107.length y107 from by rw [Ny107.out]; exact Kd.C_take (m := (t104 : Int).toNat) ((Kd.R_reads' (Kd.R_after (ok := (fun _ => True)) (by (with_reducible repeat (first | apply Kd.R_alloc | apply Kd.R_drewN | apply Kd.R_drew)); exact HO_4.out) hg hat)).2.2) KL20.out)); have n3_ := Aside0.mk ((show Kd.C Kd.string w24 A23 y118.length y118 from by rw [Ny118.out, KA23.out]; exact Kd.C_drop (m := (t104 : Int).toNat) (c := co19) ((Kd.R_reads' (Kd.R_after (ok := (fun _ => True)) (by (with_reducible repeat (first | apply Kd.R_alloc | apply Kd.R_drewN | apply Kd.R_drew)); exact HO_4.out) hg hat)).2.2) KL23.out ((Kd.R_reads' (Kd.R_after (ok := (fun _ => True)) (by (with_reducible repeat (first | apply Kd.R_alloc | apply Kd.R_drewN | apply Kd.R_drew)); exact HO_4.out) hg hat)).2.1))); have n4_ := Aside0.mk (ho); clear HO_4 HB HR110 HR121 HO117; have HO_4 := n0_; have HB := n1_; have HR110 := n2_; have HR121 := n3_; have HO124 := n4_; clear n0_ n1_ n2_ n3_ n4_; clear ho hb hg hat)); try go_wp2_with (first | (go_at_call 27; (with_reducible refine (gristmillref03_From.calls k2 _ _ x4_2 (rdOf ByteArray.empty l0 x6_2) t104 _ ?side1 ?side2 A7.out).mono ?_); (case side1 => repeat (first | exact (Kd.R_reads' HO_4.out).2.2 | (with_reducible refine Kd.C_alloc ?_ _) | (with_reducible refine Kd.C_drewN ?_ _) | (with_reducible refine Kd.C_drew ?_))); (case side2 => exact (Kd.R_reads' HO_4.out).2.1); rintro e w' ⟨rfl, ⟨nd, rfl⟩⟩; (try first | exact ⟨rfl, _, World.drewN_drewN _ _ _⟩ | exact ⟨rfl, _, Eq.trans (World.drewN_drewN _ _ _) (congrArg (World.drewN _) (Nat.add_assoc _ _ _))⟩); have p105 : 0 ≤ (t104 : Int) := of_decide_eq_true (by assumption); have q105 : t104 < (x4_2.length : Int) := of_decide_eq_true (by assumption); obtain ⟨ad105, e105, hx105_0⟩ := Kd.at_string (Kd.R_reads' HO_4.out).2.2 t104 p105 q105; cases e105; replace p105 := eq_true p105; replace q105 := eq_true q105; have p106 : 0 ≤ (x6_2 : Int) := of_decide_eq_true (by assumption); have q106 : x6_2 < (l0.length : Int) := of_decide_eq_true (by assumption); obtain ⟨ad106, e106, hx106_0⟩ := Kd.at_string HR0.out x6_2 p106 q106; obtain rfl : ad103 = ad106 := (by injection e106); replace hx106_0 := pw_cell_below HB.out hx106_0; replace p106 := eq_true p106; replace q106 := eq_true q106; have q20 : (t104 : Int) ≤ ((x4_2.length : Int) : Int) := of_decide_eq_true (by assumption); obtain ⟨i020, hi020, _, hsz20, _⟩ := info_parts info9; have hroom20 : x4_2.length ≤ co19 := (Kd.R_reads' HO_4.out).2.1; have hC20 : Kd.C Kd.string _ (some ad105) x4_2.length x4_2 := (Kd.R_reads' HO_4.out).2.2; have hcut20 := cut_to (P := Try.prog) 22 9 .i64 Try.underlying22 hi020 (some ad105) x4_2.length co19 t104 (of_decide_eq_true (by assumption)) q20 hroom20; have hr20 := Kd.C_take (m := (t104 : Int).toNat) hC20 (by omega); have hy20 : y107.length = (t104 : Int).toNat := (by rw [Ny107.out, List.length_take]; omega); rw [← Ny107.out] at hr20; rw [← hy20] at hcut20; have HR110 := Aside0.mk hr20; have HC110 := Aside0.mk (show y107.length ≤ co19 from by omega); clear hr20 hC20 hroom20 hi020 hsz20; have KY20 := Aside0.mk hy20; clear hy20; have KL20 := Aside0.mk (show (t104 : Int).toNat ≤ x4_2.length from by omega); replace q20 := eq_true q20) | ((with_reducible refine gate_builtin (b := .append) (xs := #[.tmp 48, .tmp 51]) rfl ?_); at_builtin; refine Kd.R_append_rows Kd.string (w0 := w) w.heap.size rfl (.tmp 48) (.tmp 51) 22 9 (.string ⟨#[]⟩) 16 rfl Try.underlying22 info9 rfl (by decide) (by omega) (.slice none 0 0) ([] : List ByteArray) y107 _ _ _ (fun k_ => some k_ ≠ (.slice (some ad105) x4_2.length co19 : Value).ownBlock) (fun _ => False) rfl rfl ?aO ?aR (fun _ _ h => h) (fun _ h => h.elim) ?aF ?aB ?aS ?aL ?_; (case aR => repeat (first | exact (by repeat (first | (with_reducible exact HR110.out) | (with_reducible refine Kd.C_alloc ?_ _) | (with_reducible refine Kd.C_drewN ?_ _) | (with_reducible refine Kd.C_drew ?_) | exact HR110.out)) | (with_reducible refine Kd.C_alloc ?_ _) | (with_reducible refine Kd.C_drewN ?_ _) | (with_reducible refine Kd.C_drew ?_))); (case aB => exact (bw_ HB.out)); (case aF => exact (fun k_ hk => Kd.fresh' (Kd.R_lt (by (with_reducible repeat (first | apply Kd.R_alloc | apply Kd.R_drewN | apply Kd.R_drew)); exact HO_4.out)) k_ hk)); (case aO => exact ((Kd.R_nil _ _ _ _ (fun k_ => some k_ ≠ (.slice (some ad105) x4_2.length co19 : Value).ownBlock)))); (case aS => exact (below_size (bw_ HB.out))); (case aL => have := LMc14.out; omega); intro v112 w21 ho hb hg hat; rw [← Ny111.out] at ho; have n0_ := Aside0.mk (Kd.R_after (Kd.R_apart_nil (by (with_reducible repeat (first | apply Kd.R_alloc | apply Kd.R_drewN | apply Kd.R_drew)); exact HO_4.out)) hg hat); have n1_ := Aside0.mk (hb); have n2_ := Aside0.mk ((show Kd.C Kd.string w21 (some ad105) y107.length y107 from by rw [Ny107.out]; exact Kd.C_take (m := (t104 : Int).toNat) ((Kd.R_reads' (Kd.R_after (Kd.R_apart_nil (by (with_reducible repeat (first | apply Kd.R_alloc | apply Kd.R_drewN | apply Kd.R_drew)); exact HO_4.out)) hg hat)).2.2) KL20.out)); have n3_ := Aside0.mk (ho); clear HO_4 HB HR110; have HO_4 := n0_; have HB := n1_; have HR110 := n2_; have HO113 := n3_; clear n0_ n1_ n2_ n3_; clear ho hb hg hat; have p114 : 0 ≤ (x6_2 : Int) := of_decide_eq_true (by assumption); have q114 : x6_2 < (l0.length : Int) := of_decide_eq_true (by assumption); obtain ⟨ad114, e114, hx114_0⟩ := Kd.at_string HR0.out x6_2 p114 q114; obtain rfl : ad103 = ad114 := (by injection e114); replace hx114_0 := pw_cell_below HB.out hx114_0; replace p114 := eq_true p114; replace q114 := eq_true q114) | ((with_reducible refine gate_builtin (b := .append) (xs := #[.tmp 53, .tmp 58]) rfl ?_); at_builtin; refine Kd.R_append Kd.string (w0 := w) w.heap.size rfl (.tmp 53) (.tmp 58) 22 9 (.string ⟨#[]⟩) 16 rfl Try.underlying22 info9 rfl (by decide) (by omega) v112 y111 (rdOf ByteArray.empty l0 x6_2) [.string (rdOf ByteArray.empty l0 x6_2)] (fun k_ => some k_ ≠ (.slice (some ad105) x4_2.length co19 : Value).ownBlock) (fun _ => False) rfl rfl ?aP (fun _ hk => hk.elim) ?aF ?aO ?aB ?aS ?aL ?_; (case aP => exact rfl); (case aB => exact (bw_ HB.out)); (case aF => exact (fun k_ hk => Kd.fresh' (Kd.R_lt (by (with_reducible repeat (first | apply Kd.R_alloc | apply Kd.R_drewN | apply Kd.R_drew)); exact HO_4.out)) k_ hk)); (case aO => exact (by (with_reducible repeat (first | apply Kd.R_alloc | apply Kd.R_drewN | apply Kd.R_drew)); exact HO113.out)); (case aS => exact (below_size (bw_ HB.out))); (case aL => have := LMc15.out; omega); intro v116 w22 ho hb hg hat; rw [← Ny115.out] at ho; have n0_ := Aside0.mk (Kd.R_after (ok := (fun _ => True)) (by (with_reducible repeat (first | apply Kd.R_alloc | apply Kd.R_drewN | apply Kd.R_drew)); exact HO_4.out) hg hat); have n1_ := Aside0.mk (hb); have n2_ := Aside0.mk ((show Kd.C Kd.string w22 (some ad105) y107.length y107 from by rw [Ny107.out]; exact Kd.C_take (m := (t104 : Int).toNat) ((Kd.R_reads' (Kd.R_after (ok := (fun _ => True)) (by (with_reducible repeat (first | apply Kd.R_alloc | apply Kd.R_drewN | apply Kd.R_drew)); exact HO_4.out) hg hat)).2.2) KL20.out)); have n3_ := Aside0.mk (ho); clear HO_4 HB HR110 HO113; have HO_4 := n0_; have HB := n1_; have HR110 := n2_; have HO117 := n3_; clear n0_ n1_ n2_ n3_; clear ho hb hg hat; have q23 : (t104 : Int) ≤ ((x4_2.length : Int) : Int) := of_decide_eq_true (by assumption); obtain ⟨i023, hi023, _, hsz23, _⟩ := info_parts info9; have hroom23 : x4_2.length ≤ co19 := (Kd.R_reads' HO_4.out).2.1; have hC23 : Kd.C Kd.string _ (some ad105) x4_2.length x4_2 := (Kd.R_reads' HO_4.out).2.2; have q023 : (0 : Int) ≤ (t104 : Int) := of_decide_eq_true (by assumption); have hcut23 := cut_from (P := Try.prog) 22 9 .i64 Try.underlying22 hi023 1 hsz23 (some ad105) x4_2.length co19 t104 q023 q23; have hr23 := Kd.C_drop (m := (t104 : Int).toNat) (c := co19) hC23 (by omega) hroom23; obtain ⟨A23, hA23⟩ : ∃ A1, A1 = (if co19 = (t104 : Int).toNat then (some ad105) else ((some ad105) : Option Addr).map (·.add ((t104 : Int).toNat * 1))) := ⟨_, rfl⟩; obtain ⟨c23, hc23⟩ : ∃ c1, c1 = co19 - (t104 : Int).toNat := ⟨_, rfl⟩; have hy23 : y118.length = x4_2.length - (t104 : Int).toNat := (by rw [Ny118.out, List.length_drop] <;> omega); rw [show (x4_2).drop (t104 : Int).toNat = y118 from Ny118.out.symm] at hr23; replace hr23 : Kd.C Kd.string _ A23 y118.length y118 := (by rw [hA23]; exact hr23); rw [← hy23, ← hA23, ← hc23] at hcut23; have HR121 := Aside0.mk hr23; have HC121 := Aside0.mk (show y118.length ≤ c23 from by rw [hy23, hc23]; exact Nat.sub_le_sub_right hroom23 _); clear hr23 hC23 hroom23 hi023 hsz23 hc23; have KY23 := Aside0.mk hy23; have KA23 := Aside0.mk hA23; clear hy23 hA23; have KL23 := Aside0.mk (show (t104 : Int).toNat ≤ x4_2.length from by omega); replace q23 := eq_true q23) | ((with_reducible refine gate_builtin (b := .append) (xs := #[.tmp 60, .tmp 63]) rfl ?_); at_builtin; refine Kd.R_append_rows Kd.string (w0 := w) w.heap.size rfl (.tmp 60) (.tmp 63) 22 9 (.string ⟨#[]⟩) 16 rfl Try.underlying22 info9 rfl (by decide) (by omega) v116 y115 y118 _ _ _ (fun k_ => some k_ ≠ (.slice (some ad105) x4_2.length co19 : Value).ownBlock) (fun _ => False) rfl rfl ?aO ?aR (fun _ _ h => h) (fun _ h => h.elim) ?aF ?aB ?aS ?aL ?_; (case aR => repeat (first | exact (by repeat (first | (with_reducible exact HR121.out) | (with_reducible refine Kd.C_alloc ?_ _) | (with_reducible refine Kd.C_drewN ?_ _) | (with_reducible refine Kd.C_drew ?_) | exact HR121.out)) | (with_reducible refine Kd.C_alloc ?_ _) | (with_reducible refine Kd.C_drewN ?_ _) | (with_reducible refine Kd.C_drew ?_))); (case aB => exact (bw_ HB.out)); (case aF => exact (fun k_ hk => Kd.fresh' (Kd.R_lt (by (with_reducible repeat (first | apply Kd.R_alloc | apply Kd.R_drewN | apply Kd.R_drew)); exact HO_4.out)) k_ hk)); (case aO => exact (by (with_reducible repeat (first | apply Kd.R_alloc | apply Kd.R_drewN | apply Kd.R_drew)); exact HO117.out)); (case aS => exact (below_size (bw_ HB.out))); (case aL => have := LMc18.out; omega); intro v123 w24 ho hb hg hat; rw [← Ny122.out] at ho; have n0_ := Aside0.mk (Kd.R_after (ok := (fun _ => True)) (by (with_reducible repeat (first | apply Kd.R_alloc | apply Kd.R_drewN | apply Kd.R_drew)); exact HO_4.out) hg hat); have n1_ := Aside0.mk (hb); have n2_ := Aside0.mk ((show Kd.C Kd.string w24 (some ad105) y107.length y107 from by rw [Ny107.out]; exact Kd.C_take (m := (t104 : Int).toNat) ((Kd.R_reads' (Kd.R_after (ok := (fun _ => True)) (by (with_reducible repeat (first | apply Kd.R_alloc | apply Kd.R_drewN | apply Kd.R_drew)); exact HO_4.out) hg hat)).2.2) KL20.out)); have n3_ := Aside0.mk ((show Kd.C Kd.string w24 A23 y118.length y118 from by rw [Ny118.out, KA23.out]; exact Kd.C_drop (m := (t104 : Int).toNat) (c := co19) ((Kd.R_reads' (Kd.R_after (ok := (fun _ => True)) (by (with_reducible repeat (first | apply Kd.R_alloc | apply Kd.R_drewN | apply Kd.R_drew)); exact HO_4.out) hg hat)).2.2) KL23.out ((Kd.R_reads' (Kd.R_after (ok := (fun _ => True)) (by (with_reducible repeat (first | apply Kd.R_alloc | apply Kd.R_drewN | apply Kd.R_drew)); exact HO_4.out) hg hat)).2.1))); have n4_ := Aside0.mk (ho); clear HO_4 HB HR110 HR121 HO117; have HO_4 := n0_; have HB := n1_; have HR110 := n2_; have HR121 := n3_; have HO124 := n4_; clear n0_ n1_ n2_ n3_ n4_; clear ho hb hg hat)))
               go_roundg k2
               case measure => have := HK1.out; have := HK2.out; omega
               case rel => exact ⟨(y122), (wrap64 (x6_2 + 1)), (by first | rfl | (simp; done) | (simp [*]; done)), H', ⟨by have := HK1.out; have := HK2.out; omega⟩, ⟨by (with_reducible repeat (first | apply Kd.R_alloc | apply Kd.R_drewN | apply Kd.R_drew)); exact Kd.R_mono HO124.out (fun _ hk => trivial)⟩, ⟨by repeat (first | (with_reducible first | exact HB.out | apply below_alloc | apply pw_below_drewN | apply below_drew1) | exact HB.out)⟩⟩
              ·rw [if_neg c18] at H
               exact absurd H (by simp)
             ·rw [if_neg c15] at H
              exact absurd H (by simp)
            ·rw [if_neg c14] at H
             exact absurd H (by simp)
           ·rw [if_neg c13] at H
            exact absurd H (by simp)
         ·rw [if_neg c9] at H
          exact absurd H (by simp)
        ·rw [if_neg c8] at H
         have c8b0 : decide (t104 < (x4_2.length : Int)) = false := decide_eq_false c8
         clear c8
         by_cases c25 : 0 ≤ t104
         ·rw [if_pos c25] at H
          have c25b0 := eq_true c25
          have c25b1 : decide (0 ≤ t104) = true := decide_eq_true c25
          clear c25
          by_cases c26 : t104 ≤ (x4_2.length : Int)
          ·rw [if_pos c26] at H
           have c26b0 := eq_true c26
           have c26b1 : decide (t104 ≤ (x4_2.length : Int)) = true := decide_eq_true c26
           clear c26
           obtain ⟨y125, hy125⟩ : ∃ y_ : List ByteArray, y_ = (x4_2.take (t104 : Int).toNat) := ⟨_, rfl⟩
           replace H : (if ([] : List ByteArray).length + y125.length < 8796093022208 then ((some (([] : List ByteArray) ++ y125 : List ByteArray)).bind fun y129 => (if y129.length < 8796093022208 then ((some (y129 ++ [rdOf ByteArray.empty l0 x6_2] : List ByteArray)).bind fun y133 => ((some (x4_2.drop (t104 : Int).toNat : List ByteArray)).bind fun y136 => (if y133.length + y136.length < 8796093022208 then (gristmillref03_Build.l1 k2 l0 (y133 ++ y136) (wrap64 (x6_2 + 1))) else (none)))) else (none))) else (none)) = some (r1, r2) := by first | (rw [hy125]; with_reducible exact H) | (have H2_ := (Option.bind_some _ _).symm.trans H; rw [hy125]; with_reducible exact H2_) | (have H2_ := (Option.bind_some _ _).symm.trans H; with_reducible exact H2_) | with_reducible exact H | (rw [hy125]; exact H) | exact H
           have Ny125 := Aside0.mk hy125
           clear hy125
           by_cases c27 : ([] : List ByteArray).length + y125.length < 8796093022208
           ·rw [if_pos c27] at H
            have LMc27 := Aside0.mk c27
            clear c27
            obtain ⟨y129, hy129⟩ : ∃ y_ : List ByteArray, y_ = (([] : List ByteArray) ++ y125) := ⟨_, rfl⟩
            replace H : (if y129.length < 8796093022208 then ((some (y129 ++ [rdOf ByteArray.empty l0 x6_2] : List ByteArray)).bind fun y133 => ((some (x4_2.drop (t104 : Int).toNat : List ByteArray)).bind fun y136 => (if y133.length + y136.length < 8796093022208 then (gristmillref03_Build.l1 k2 l0 (y133 ++ y136) (wrap64 (x6_2 + 1))) else (none)))) else (none)) = some (r1, r2) := by first | (rw [hy129]; with_reducible exact H) | (have H2_ := (Option.bind_some _ _).symm.trans H; rw [hy129]; with_reducible exact H2_) | (have H2_ := (Option.bind_some _ _).symm.trans H; with_reducible exact H2_) | with_reducible exact H | (rw [hy129]; exact H) | exact H
            have Ny129 := Aside0.mk hy129
            clear hy129
            by_cases c28 : y129.length < 8796093022208
            ·rw [if_pos c28] at H
             have LMc28 := Aside0.mk c28
             clear c28
             obtain ⟨y133, hy133⟩ : ∃ y_ : List ByteArray, y_ = (y129 ++ [rdOf ByteArray.empty l0 x6_2]) := ⟨_, rfl⟩
             replace H : ((some (x4_2.drop (t104 : Int).toNat : List ByteArray)).bind fun y136 => (if y133.length + y136.length < 8796093022208 then (gristmillref03_Build.l1 k2 l0 (y133 ++ y136) (wrap64 (x6_2 + 1))) else (none))) = some (r1, r2) := by first | (rw [hy133]; with_reducible exact H) | (have H2_ := (Option.bind_some _ _).symm.trans H; rw [hy133]; with_reducible exact H2_) | (have H2_ := (Option.bind_some _ _).symm.trans H; with_reducible exact H2_) | with_reducible exact H | (rw [hy133]; exact H) | exact H
             have Ny133 := Aside0.mk hy133
             clear hy133
             have c29b0 := eq_true (of_decide_eq_true (by assumption) : 0 ≤ t104)
             have c30b0 := eq_true (of_decide_eq_true (by assumption) : t104 ≤ (x4_2.length : Int))
             obtain ⟨y136, hy136⟩ : ∃ y_ : List ByteArray, y_ = (x4_2.drop (t104 : Int).toNat) := ⟨_, rfl⟩
             replace H : (if y133.length + y136.length < 8796093022208 then (gristmillref03_Build.l1 k2 l0 (y133 ++ y136) (wrap64 (x6_2 + 1))) else (none)) = some (r1, r2) := by first | (rw [hy136]; with_reducible exact H) | (have H2_ := (Option.bind_some _ _).symm.trans H; rw [hy136]; with_reducible exact H2_) | (have H2_ := (Option.bind_some _ _).symm.trans H; with_reducible exact H2_) | with_reducible exact H | (rw [hy136]; exact H) | exact H
             have Ny136 := Aside0.mk hy136
             clear hy136
             by_cases c31 : y133.length + y136.length < 8796093022208
             ·rw [if_pos c31] at H
              have LMc31 := Aside0.mk c31
              clear c31
              obtain ⟨y140, hy140⟩ : ∃ y_ : List ByteArray, y_ = (y133 ++ y136) := ⟨_, rfl⟩
              replace H : (gristmillref03_Build.l1 k2 l0 y140 (wrap64 (x6_2 + 1))) = some (r1, r2) := by first | (rw [hy140]; with_reducible exact H) | (have H2_ := (Option.bind_some _ _).symm.trans H; rw [hy140]; with_reducible exact H2_) | (have H2_ := (Option.bind_some _ _).symm.trans H; with_reducible exact H2_) | with_reducible exact H | (rw [hy140]; exact H) | exact H
              have Ny140 := Aside0.mk hy140
              clear hy140
              have H' := Aside0.mk H
              clear H
              have p103 : 0 ≤ (x6_2 : Int) := of_decide_eq_true (by assumption)
              have q103 : x6_2 < (l0.length : Int) := of_decide_eq_true (by assumption)
              obtain ⟨ad103, e103, hx103_0⟩ := Kd.at_string HR0.out x6_2 p103 q103
              cases e103
              replace hx103_0 := pw_cell_below HB.out hx103_0
              replace p103 := eq_true p103
              replace q103 := eq_true q103
              obtain ⟨Ao32, co32, eo32⟩ := Kd.R_slice HO_4.out
              subst eo32
              go_wp2_with (first | (go_at_call 27; (with_reducible refine (gristmillref03_From.calls k2 _ _ x4_2 (rdOf ByteArray.empty l0 x6_2) t104 _ ?side1 ?side2 A7.out).mono ?_); (case side1 => repeat (first | exact (Kd.R_reads' HO_4.out).2.2 | (with_reducible refine Kd.C_alloc ?_ _) | (with_reducible refine Kd.C_drewN ?_ _) | (with_reducible refine Kd.C_drew ?_))); (case side2 => exact (Kd.R_reads' HO_4.out).2.1); rintro e w' ⟨rfl, ⟨nd, rfl⟩⟩; (try first | exact ⟨rfl, _, World.drewN_drewN _ _ _⟩ | exact ⟨rfl, _, Eq.trans (World.drewN_drewN _ _ _) (congrArg (World.drewN _) (Nat.add_assoc _ _ _))⟩); have q33 : (t104 : Int) ≤ ((x4_2.length : Int) : Int) := of_decide_eq_true (by assumption); obtain ⟨i033, hi033, _, hsz33, _⟩ := info_parts info9; have hroom33 : x4_2.length ≤ co32 := (Kd.R_reads' HO_4.out).2.1; have hC33 : Kd.C Kd.string _ Ao32 x4_2.length x4_2 := (Kd.R_reads' HO_4.out).2.2; have hcut33 := cut_to (P := Try.prog) 22 9 .i64 Try.underlying22 hi033 Ao32 x4_2.length co32 t104 (of_decide_eq_true (by assumption)) q33 hroom33; have hr33 := Kd.C_take (m := (t104 : Int).toNat) hC33 (by omega); have hy33 : y125.length = (t104 : Int).toNat := (by rw [Ny125.out, List.length_take]; omega); rw [← Ny125.out] at hr33; rw [← hy33] at hcut33; have HR128 := Aside0.mk hr33; have HC128 := Aside0.mk (show y125.length ≤ co32 from by omega); clear hr33 hC33 hroom33 hi033 hsz33; have KY33 := Aside0.mk hy33; clear hy33; have KL33 := Aside0.mk (show (t104 : Int).toNat ≤ x4_2.length from by omega); replace q33 := eq_true q33) | ((with_reducible refine gate_builtin (b := .append) (xs := #[.tmp 48, .tmp 51]) rfl ?_); at_builtin; refine Kd.R_append_rows Kd.string (w0 := w) w.heap.size rfl (.tmp 48) (.tmp 51) 22 9 (.string ⟨#[]⟩) 16 rfl Try.underlying22 info9 rfl (by decide) (by omega) (.slice none 0 0) ([] : List ByteArray) y125 _ _ _ (fun k_ => some k_ ≠ (.slice Ao32 x4_2.length co32 : Value).ownBlock) (fun _ => False) rfl rfl ?aO ?aR (fun _ _ h => h) (fun _ h => h.elim) ?aF ?aB ?aS ?aL ?_; (case aR => repeat (first | exact (by repeat (first | (with_reducible exact HR128.out) | (with_reducible refine Kd.C_alloc ?_ _) | (with_reducible refine Kd.C_drewN ?_ _) | (with_reducible refine Kd.C_drew ?_) | exact HR128.out)) | (with_reducible refine Kd.C_alloc ?_ _) | (with_reducible refine Kd.C_drewN ?_ _) | (with_reducible refine Kd.C_drew ?_))); (case aB => exact (bw_ HB.out)); (case aF => exact (fun k_ hk => Kd.fresh' (Kd.R_lt (by (with_reducible repeat (first | apply Kd.R_alloc | apply Kd.R_drewN | apply Kd.R_drew)); exact HO_4.out)) k_ hk)); (case aO => exact ((Kd.R_nil _ _ _ _ (fun k_ => some k_ ≠ (.slice Ao32 x4_2.length co32 : Value).ownBlock)))); (case aS => exact (below_size (bw_ HB.out))); (case aL => have := LMc27.out; omega); intro v130 w34 ho hb hg hat; rw [← Ny129.out] at ho; have n0_ := Aside0.mk (Kd.R_after (Kd.R_apart_nil (by (with_reducible repeat (first | apply Kd.R_alloc | apply Kd.R_drewN | apply Kd.R_drew)); exact HO_4.out)) hg hat); have n1_ := Aside0.mk (hb); have n2_ := Aside0.mk ((show Kd.C Kd.string w34 Ao32 y125.length y125 from by rw [Ny125.out]; exact Kd.C_take (m := (t104 : Int).toNat) ((Kd.R_reads' (Kd.R_after (Kd.R_apart_nil (by (with_reducible repeat (first | apply Kd.R_alloc | apply Kd.R_drewN | apply Kd.R_drew)); exact HO_4.out)) hg hat)).2.2) KL33.out)); have n3_ := Aside0.mk (ho); clear HO_4 HB HR128; have HO_4 := n0_; have HB := n1_; have HR128 := n2_; have HO131 := n3_; clear n0_ n1_ n2_ n3_; clear ho hb hg hat; have p132 : 0 ≤ (x6_2 : Int) := of_decide_eq_true (by assumption); have q132 : x6_2 < (l0.length : Int) := of_decide_eq_true (by assumption); obtain ⟨ad132, e132, hx132_0⟩ := Kd.at_string HR0.out x6_2 p132 q132; obtain rfl : ad103 = ad132 := (by injection e132); replace hx132_0 := pw_cell_below HB.out hx132_0; replace p132 := eq_true p132; replace q132 := eq_true q132) | ((with_reducible refine gate_builtin (b := .append) (xs := #[.tmp 53, .tmp 58]) rfl ?_); at_builtin; refine Kd.R_append Kd.string (w0 := w) w.heap.size rfl (.tmp 53) (.tmp 58) 22 9 (.string ⟨#[]⟩) 16 rfl Try.underlying22 info9 rfl (by decide) (by omega) v130 y129 (rdOf ByteArray.empty l0 x6_2) [.string (rdOf ByteArray.empty l0 x6_2)] (fun k_ => some k_ ≠ (.slice Ao32 x4_2.length co32 : Value).ownBlock) (fun _ => False) rfl rfl ?aP (fun _ hk => hk.elim) ?aF ?aO ?aB ?aS ?aL ?_; (case aP => exact rfl); (case aB => exact (bw_ HB.out)); (case aF => exact (fun k_ hk => Kd.fresh' (Kd.R_lt (by (with_reducible repeat (first | apply Kd.R_alloc | apply Kd.R_drewN | apply Kd.R_drew)); exact HO_4.out)) k_ hk)); (case aO => exact (by (with_reducible repeat (first | apply Kd.R_alloc | apply Kd.R_drewN | apply Kd.R_drew)); exact HO131.out)); (case aS => exact (below_size (bw_ HB.out))); (case aL => have := LMc28.out; omega); intro v134 w35 ho hb hg hat; rw [← Ny133.out] at ho; have n0_ := Aside0.mk (Kd.R_after (ok := (fun _ => True)) (by (with_reducible repeat (first | apply Kd.R_alloc | apply Kd.R_drewN | apply Kd.R_drew)); exact HO_4.out) hg hat); have n1_ := Aside0.mk (hb); have n2_ := Aside0.mk ((show Kd.C Kd.string w35 Ao32 y125.length y125 from by rw [Ny125.out]; exact Kd.C_take (m := (t104 : Int).toNat) ((Kd.R_reads' (Kd.R_after (ok := (fun _ => True)) (by (with_reducible repeat (first | apply Kd.R_alloc | apply Kd.R_drewN | apply Kd.R_drew)); exact HO_4.out) hg hat)).2.2) KL33.out)); have n3_ := Aside0.mk (ho); clear HO_4 HB HR128 HO131; have HO_4 := n0_; have HB := n1_; have HR128 := n2_; have HO135 := n3_; clear n0_ n1_ n2_ n3_; clear ho hb hg hat; have q36 : (t104 : Int) ≤ ((x4_2.length : Int) : Int) := of_decide_eq_true (by assumption); obtain ⟨i036, hi036, _, hsz36, _⟩ := info_parts info9; have hroom36 : x4_2.length ≤ co32 := (Kd.R_reads' HO_4.out).2.1; have hC36 : Kd.C Kd.string _ Ao32 x4_2.length x4_2 := (Kd.R_reads' HO_4.out).2.2; have q036 : (0 : Int) ≤ (t104 : Int) := of_decide_eq_true (by assumption); have hcut36 := cut_from (P := Try.prog) 22 9 .i64 Try.underlying22 hi036 1 hsz36 Ao32 x4_2.length co32 t104 q036 q36; have hr36 := Kd.C_drop (m := (t104 : Int).toNat) (c := co32) hC36 (by omega) hroom36; obtain ⟨A36, hA36⟩ : ∃ A1, A1 = (if co32 = (t104 : Int).toNat then Ao32 else (Ao32 : Option Addr).map (·.add ((t104 : Int).toNat * 1))) := ⟨_, rfl⟩; obtain ⟨c36, hc36⟩ : ∃ c1, c1 = co32 - (t104 : Int).toNat := ⟨_, rfl⟩; have hy36 : y136.length = x4_2.length - (t104 : Int).toNat := (by rw [Ny136.out, List.length_drop] <;> omega); rw [show (x4_2).drop (t104 : Int).toNat = y136 from Ny136.out.symm] at hr36; replace hr36 : Kd.C Kd.string _ A36 y136.length y136 := (by rw [hA36]; exact hr36); rw [← hy36, ← hA36, ← hc36] at hcut36; have HR139 := Aside0.mk hr36; have HC139 := Aside0.mk (show y136.length ≤ c36 from by rw [hy36, hc36]; exact Nat.sub_le_sub_right hroom36 _); clear hr36 hC36 hroom36 hi036 hsz36 hc36; have KY36 := Aside0.mk hy36; have KA36 := Aside0.mk hA36; clear hy36 hA36; have KL36 := Aside0.mk (show (t104 : Int).toNat ≤ x4_2.length from by omega); replace q36 := eq_true q36) | ((with_reducible refine gate_builtin (b := .append) (xs := #[.tmp 60, .tmp 63]) rfl ?_); at_builtin; refine Kd.R_append_rows Kd.string (w0 := w) w.heap.size rfl (.tmp 60) (.tmp 63) 22 9 (.string ⟨#[]⟩) 16 rfl Try.underlying22 info9 rfl (by decide) (by omega) v134 y133 y136 _ _ _ (fun k_ => some k_ ≠ (.slice Ao32 x4_2.length co32 : Value).ownBlock) (fun _ => False) rfl rfl ?aO ?aR (fun _ _ h => h) (fun _ h => h.elim) ?aF ?aB ?aS ?aL ?_; (case aR => repeat (first | exact (by repeat (first | (with_reducible exact HR139.out) | (with_reducible refine Kd.C_alloc ?_ _) | (with_reducible refine Kd.C_drewN ?_ _) | (with_reducible refine Kd.C_drew ?_) | exact HR139.out)) | (with_reducible refine Kd.C_alloc ?_ _) | (with_reducible refine Kd.C_drewN ?_ _) | (with_reducible refine Kd.C_drew ?_))); (case aB => exact (bw_ HB.out)); (case aF => exact (fun k_ hk => Kd.fresh' (Kd.R_lt (by (with_reducible repeat (first | apply Kd.R_alloc | apply Kd.R_drewN | apply Kd.R_drew)); exact HO_4.out)) k_ hk)); (case aO => exact (by (with_reducible repeat (first | apply Kd.R_alloc | apply Kd.R_drewN | apply Kd.R_drew)); exact HO135.out)); (case aS => exact (below_size (bw_ HB.out))); (case aL => have := LMc31.out; omega); intro v141 w37 ho hb hg hat; rw [← Ny140.out] at ho; have n0_ := Aside0.mk (Kd.R_after (ok := (fun _ => True)) (by (with_reducible repeat (first | apply Kd.R_alloc | apply Kd.R_drewN | apply Kd.R_drew)); exact HO_4.out) hg hat); have n1_ := Aside0.mk (hb); have n2_ := Aside0.mk ((show Kd.C Kd.string w37 Ao32 y125.length y125 from by rw [Ny125.out]; exact Kd.C_take (m := (t104 : Int).toNat) ((Kd.R_reads' (Kd.R_after (ok := (fun _ => True)) (by (with_reducible repeat (first | apply Kd.R_alloc | apply Kd.R_drewN | apply Kd.R_drew)); exact HO_4.out) hg hat)).2.2) KL33.out)); have n3_ := Aside0.mk ((show Kd.C Kd.string w37 A36 y136.length y136 from by rw [Ny136.out, KA36.out]; exact Kd.C_drop (m := (t104 : Int).toNat) (c := co32) ((Kd.R_reads' (Kd.R_after (ok := (fun _ => True)) (by (with_reducible repeat (first | apply Kd.R_alloc | apply Kd.R_drewN | apply Kd.R_drew)); exact HO_4.out) hg hat)).2.2) KL36.out ((Kd.R_reads' (Kd.R_after (ok := (fun _ => True)) (by (with_reducible repeat (first | apply Kd.R_alloc | apply Kd.R_drewN | apply Kd.R_drew)); exact HO_4.out) hg hat)).2.1))); have n4_ := Aside0.mk (ho); clear HO_4 HB HR128 HR139 HO135; have HO_4 := n0_; have HB := n1_; have HR128 := n2_; have HR139 := n3_; have HO142 := n4_; clear n0_ n1_ n2_ n3_ n4_; clear ho hb hg hat))
              repeat (go_quiet (first | (go_at_call 27; (with_reducible refine (gristmillref03_From.calls k2 _ _ x4_2 (rdOf ByteArray.empty l0 x6_2) t104 _ ?side1 ?side2 A7.out).mono ?_); (case side1 => repeat (first | exact (Kd.R_reads' HO_4.out).2.2 | (with_reducible refine Kd.C_alloc ?_ _) | (with_reducible refine Kd.C_drewN ?_ _) | (with_reducible refine Kd.C_drew ?_))); (case side2 => exact (Kd.R_reads' HO_4.out).2.1); rintro e w' ⟨rfl, ⟨nd, rfl⟩⟩; (try first | exact ⟨rfl, _, World.drewN_drewN _ _ _⟩ | exact ⟨rfl, _, Eq.trans (World.drewN_drewN _ _ _) (congrArg (World.drewN _) (Nat.add_assoc _ _ _))⟩); have q33 : (t104 : Int) ≤ ((x4_2.length : Int) : Int) := of_decide_eq_true (by assumption); obtain ⟨i033, hi033, _, hsz33, _⟩ := info_parts info9; have hroom33 : x4_2.length ≤ co32 := (Kd.R_reads' HO_4.out).2.1; have hC33 : Kd.C Kd.string _ Ao32 x4_2.length x4_2 := (Kd.R_reads' HO_4.out).2.2; have hcut33 := cut_to (P := Try.prog) 22 9 .i64 Try.underlying22 hi033 Ao32 x4_2.length co32 t104 (of_decide_eq_true (by assumption)) q33 hroom33; have hr33 := Kd.C_take (m := (t104 : Int).toNat) hC33 (by omega); have hy33 : y125.length = (t104 : Int).toNat := (by rw [Ny125.out, List.length_take]; omega); rw [← Ny125.out] at hr33; rw [← hy33] at hcut33; have HR128 := Aside0.mk hr33; have HC128 := Aside0.mk (show y125.length ≤ co32 from by omega); clear hr33 hC33 hroom33 hi033 hsz33; have KY33 := Aside0.mk hy33; clear hy33; have KL33 := Aside0.mk (show (t104 : Int).toNat ≤ x4_2.length from by omega); replace q33 := eq_true q33) | ((with_reducible refine gate_builtin (b := .append) (xs := #[.tmp 48, .tmp 51]) rfl ?_); at_builtin; refine Kd.R_append_rows Kd.string (w0 := w) w.heap.size rfl (.tmp 48) (.tmp 51) 22 9 (.string ⟨#[]⟩) 16 rfl Try.underlying22 info9 rfl (by decide) (by omega) (.slice none 0 0) ([] : List ByteArray) y125 _ _ _ (fun k_ => some k_ ≠ (.slice Ao32 x4_2.length co32 : Value).ownBlock) (fun _ => False) rfl rfl ?aO ?aR (fun _ _ h => h) (fun _ h => h.elim) ?aF ?aB ?aS ?aL ?_; (case aR => repeat (first | exact (by repeat (first | (with_reducible exact HR128.out) | (with_reducible refine Kd.C_alloc ?_ _) | (with_reducible refine Kd.C_drewN ?_ _) | (with_reducible refine Kd.C_drew ?_) | exact HR128.out)) | (with_reducible refine Kd.C_alloc ?_ _) | (with_reducible refine Kd.C_drewN ?_ _) | (with_reducible refine Kd.C_drew ?_))); (case aB => exact (bw_ HB.out)); (case aF => exact (fun k_ hk => Kd.fresh' (Kd.R_lt (by (with_reducible repeat (first | apply Kd.R_alloc | apply Kd.R_drewN | apply Kd.R_drew)); exact HO_4.out)) k_ hk)); (case aO => exact ((Kd.R_nil _ _ _ _ (fun k_ => some k_ ≠ (.slice Ao32 x4_2.length co32 : Value).ownBlock)))); (case aS => exact (below_size (bw_ HB.out))); (case aL => have := LMc27.out; omega); intro v130 w34 ho hb hg hat; rw [← Ny129.out] at ho; have n0_ := Aside0.mk (Kd.R_after (Kd.R_apart_nil (by (with_reducible repeat (first | apply Kd.R_alloc | apply Kd.R_drewN | apply Kd.R_drew)); exact HO_4.out)) hg hat); have n1_ := Aside0.mk (hb); have n2_ := Aside0.mk ((show Kd.C Kd.string w34 Ao32 y125.length y125 from by rw [Ny125.out]; exact Kd.C_take (m := (t104 : Int).toNat) ((Kd.R_reads' (Kd.R_after (Kd.R_apart_nil (by (with_reducible repeat (first | apply Kd.R_alloc | apply Kd.R_drewN | apply Kd.R_drew)); exact HO_4.out)) hg hat)).2.2) KL33.out)); have n3_ := Aside0.mk (ho); clear HO_4 HB HR128; have HO_4 := n0_; have HB := n1_; have HR128 := n2_; have HO131 := n3_; clear n0_ n1_ n2_ n3_; clear ho hb hg hat; have p132 : 0 ≤ (x6_2 : Int) := of_decide_eq_true (by assumption); have q132 : x6_2 < (l0.length : Int) := of_decide_eq_true (by assumption); obtain ⟨ad132, e132, hx132_0⟩ := Kd.at_string HR0.out x6_2 p132 q132; obtain rfl : ad103 = ad132 := (by injection e132); replace hx132_0 := pw_cell_below HB.out hx132_0; replace p132 := eq_true p132; replace q132 := eq_true q132) | ((with_reducible refine gate_builtin (b := .append) (xs := #[.tmp 53, .tmp 58]) rfl ?_); at_builtin; refine Kd.R_append Kd.string (w0 := w) w.heap.size rfl (.tmp 53) (.tmp 58) 22 9 (.string ⟨#[]⟩) 16 rfl Try.underlying22 info9 rfl (by decide) (by omega) v130 y129 (rdOf ByteArray.empty l0 x6_2) [.string (rdOf ByteArray.empty l0 x6_2)] (fun k_ => some k_ ≠ (.slice Ao32 x4_2.length co32 : Value).ownBlock) (fun _ => False) rfl rfl ?aP (fun _ hk => hk.elim) ?aF ?aO ?aB ?aS ?aL ?_; (case aP => exact rfl); (case aB => exact (bw_ HB.out)); (case aF => exact (fun k_ hk => Kd.fresh' (Kd.R_lt (by (with_reducible repeat (first | apply Kd.R_alloc | apply Kd.R_drewN | apply Kd.R_drew)); exact HO_4.out)) k_ hk)); (case aO => exact (by (with_reducible repeat (first | apply Kd.R_alloc | apply Kd.R_drewN | apply Kd.R_drew)); exact HO131.out)); (case aS => exact (below_size (bw_ HB.out))); (case aL => have := LMc28.out; omega); intro v134 w35 ho hb hg hat; rw [← Ny133.out] at ho; have n0_ := Aside0.mk (Kd.R_after (ok := (fun _ => True)) (by (with_reducible repeat (first | apply Kd.R_alloc | apply Kd.R_drewN | apply Kd.R_drew)); exact HO_4.out) hg hat); have n1_ := Aside0.mk (hb); have n2_ := Aside0.mk ((show Kd.C Kd.string w35 Ao32 y125.length y125 from by rw [Ny125.out]; exact Kd.C_take (m := (t104 : Int).toNat) ((Kd.R_reads' (Kd.R_after (ok := (fun _ => True)) (by (with_reducible repeat (first | apply Kd.R_alloc | apply Kd.R_drewN | apply Kd.R_drew)); exact HO_4.out) hg hat)).2.2) KL33.out)); have n3_ := Aside0.mk (ho); clear HO_4 HB HR128 HO131; have HO_4 := n0_; have HB := n1_; have HR128 := n2_; have HO135 := n3_; clear n0_ n1_ n2_ n3_; clear ho hb hg hat; have q36 : (t104 : Int) ≤ ((x4_2.length : Int) : Int) := of_decide_eq_true (by assumption); obtain ⟨i036, hi036, _, hsz36, _⟩ := info_parts info9; have hroom36 : x4_2.length ≤ co32 := (Kd.R_reads' HO_4.out).2.1; have hC36 : Kd.C Kd.string _ Ao32 x4_2.length x4_2 := (Kd.R_reads' HO_4.out).2.2; have q036 : (0 : Int) ≤ (t104 : Int) := of_decide_eq_true (by assumption); have hcut36 := cut_from (P := Try.prog) 22 9 .i64 Try.underlying22 hi036 1 hsz36 Ao32 x4_2.length co32 t104 q036 q36; have hr36 := Kd.C_drop (m := (t104 : Int).toNat) (c := co32) hC36 (by omega) hroom36; obtain ⟨A36, hA36⟩ : ∃ A1, A1 = (if co32 = (t104 : Int).toNat then Ao32 else (Ao32 : Option Addr).map (·.add ((t104 : Int).toNat * 1))) := ⟨_, rfl⟩; obtain ⟨c36, hc36⟩ : ∃ c1, c1 = co32 - (t104 : Int).toNat := ⟨_, rfl⟩; have hy36 : y136.length = x4_2.length - (t104 : Int).toNat := (by rw [Ny136.out, List.length_drop] <;> omega); rw [show (x4_2).drop (t104 : Int).toNat = y136 from Ny136.out.symm] at hr36; replace hr36 : Kd.C Kd.string _ A36 y136.length y136 := (by rw [hA36]; exact hr36); rw [← hy36, ← hA36, ← hc36] at hcut36; have HR139 := Aside0.mk hr36; have HC139 := Aside0.mk (show y136.length ≤ c36 from by rw [hy36, hc36]; exact Nat.sub_le_sub_right hroom36 _); clear hr36 hC36 hroom36 hi036 hsz36 hc36; have KY36 := Aside0.mk hy36; have KA36 := Aside0.mk hA36; clear hy36 hA36; have KL36 := Aside0.mk (show (t104 : Int).toNat ≤ x4_2.length from by omega); replace q36 := eq_true q36) | ((with_reducible refine gate_builtin (b := .append) (xs := #[.tmp 60, .tmp 63]) rfl ?_); at_builtin; refine Kd.R_append_rows Kd.string (w0 := w) w.heap.size rfl (.tmp 60) (.tmp 63) 22 9 (.string ⟨#[]⟩) 16 rfl Try.underlying22 info9 rfl (by decide) (by omega) v134 y133 y136 _ _ _ (fun k_ => some k_ ≠ (.slice Ao32 x4_2.length co32 : Value).ownBlock) (fun _ => False) rfl rfl ?aO ?aR (fun _ _ h => h) (fun _ h => h.elim) ?aF ?aB ?aS ?aL ?_; (case aR => repeat (first | exact (by repeat (first | (with_reducible exact HR139.out) | (with_reducible refine Kd.C_alloc ?_ _) | (with_reducible refine Kd.C_drewN ?_ _) | (with_reducible refine Kd.C_drew ?_) | exact HR139.out)) | (with_reducible refine Kd.C_alloc ?_ _) | (with_reducible refine Kd.C_drewN ?_ _) | (with_reducible refine Kd.C_drew ?_))); (case aB => exact (bw_ HB.out)); (case aF => exact (fun k_ hk => Kd.fresh' (Kd.R_lt (by (with_reducible repeat (first | apply Kd.R_alloc | apply Kd.R_drewN | apply Kd.R_drew)); exact HO_4.out)) k_ hk)); (case aO => exact (by (with_reducible repeat (first | apply Kd.R_alloc | apply Kd.R_drewN | apply Kd.R_drew)); exact HO135.out)); (case aS => exact (below_size (bw_ HB.out))); (case aL => have := LMc31.out; omega); intro v141 w37 ho hb hg hat; rw [← Ny140.out] at ho; have n0_ := Aside0.mk (Kd.R_after (ok := (fun _ => True)) (by (with_reducible repeat (first | apply Kd.R_alloc | apply Kd.R_drewN | apply Kd.R_drew)); exact HO_4.out) hg hat); have n1_ := Aside0.mk (hb); have n2_ := Aside0.mk ((show Kd.C Kd.string w37 Ao32 y125.length y125 from by rw [Ny125.out]; exact Kd.C_take (m := (t104 : Int).toNat) ((Kd.R_reads' (Kd.R_after (ok := (fun _ => True)) (by (with_reducible repeat (first | apply Kd.R_alloc | apply Kd.R_drewN | apply Kd.R_drew)); exact HO_4.out) hg hat)).2.2) KL33.out)); have n3_ := Aside0.mk ((show Kd.C Kd.string w37 A36 y136.length y136 from by rw [Ny136.out, KA36.out]; exact Kd.C_drop (m := (t104 : Int).toNat) (c := co32) ((Kd.R_reads' (Kd.R_after (ok := (fun _ => True)) (by (with_reducible repeat (first | apply Kd.R_alloc | apply Kd.R_drewN | apply Kd.R_drew)); exact HO_4.out) hg hat)).2.2) KL36.out ((Kd.R_reads' (Kd.R_after (ok := (fun _ => True)) (by (with_reducible repeat (first | apply Kd.R_alloc | apply Kd.R_drewN | apply Kd.R_drew)); exact HO_4.out) hg hat)).2.1))); have n4_ := Aside0.mk (ho); clear HO_4 HB HR128 HR139 HO135; have HO_4 := n0_; have HB := n1_; have HR128 := n2_; have HR139 := n3_; have HO142 := n4_; clear n0_ n1_ n2_ n3_ n4_; clear ho hb hg hat)); try go_wp2_with (first | (go_at_call 27; (with_reducible refine (gristmillref03_From.calls k2 _ _ x4_2 (rdOf ByteArray.empty l0 x6_2) t104 _ ?side1 ?side2 A7.out).mono ?_); (case side1 => repeat (first | exact (Kd.R_reads' HO_4.out).2.2 | (with_reducible refine Kd.C_alloc ?_ _) | (with_reducible refine Kd.C_drewN ?_ _) | (with_reducible refine Kd.C_drew ?_))); (case side2 => exact (Kd.R_reads' HO_4.out).2.1); rintro e w' ⟨rfl, ⟨nd, rfl⟩⟩; (try first | exact ⟨rfl, _, World.drewN_drewN _ _ _⟩ | exact ⟨rfl, _, Eq.trans (World.drewN_drewN _ _ _) (congrArg (World.drewN _) (Nat.add_assoc _ _ _))⟩); have q33 : (t104 : Int) ≤ ((x4_2.length : Int) : Int) := of_decide_eq_true (by assumption); obtain ⟨i033, hi033, _, hsz33, _⟩ := info_parts info9; have hroom33 : x4_2.length ≤ co32 := (Kd.R_reads' HO_4.out).2.1; have hC33 : Kd.C Kd.string _ Ao32 x4_2.length x4_2 := (Kd.R_reads' HO_4.out).2.2; have hcut33 := cut_to (P := Try.prog) 22 9 .i64 Try.underlying22 hi033 Ao32 x4_2.length co32 t104 (of_decide_eq_true (by assumption)) q33 hroom33; have hr33 := Kd.C_take (m := (t104 : Int).toNat) hC33 (by omega); have hy33 : y125.length = (t104 : Int).toNat := (by rw [Ny125.out, List.length_take]; omega); rw [← Ny125.out] at hr33; rw [← hy33] at hcut33; have HR128 := Aside0.mk hr33; have HC128 := Aside0.mk (show y125.length ≤ co32 from by omega); clear hr33 hC33 hroom33 hi033 hsz33; have KY33 := Aside0.mk hy33; clear hy33; have KL33 := Aside0.mk (show (t104 : Int).toNat ≤ x4_2.length from by omega); replace q33 := eq_true q33) | ((with_reducible refine gate_builtin (b := .append) (xs := #[.tmp 48, .tmp 51]) rfl ?_); at_builtin; refine Kd.R_append_rows Kd.string (w0 := w) w.heap.size rfl (.tmp 48) (.tmp 51) 22 9 (.string ⟨#[]⟩) 16 rfl Try.underlying22 info9 rfl (by decide) (by omega) (.slice none 0 0) ([] : List ByteArray) y125 _ _ _ (fun k_ => some k_ ≠ (.slice Ao32 x4_2.length co32 : Value).ownBlock) (fun _ => False) rfl rfl ?aO ?aR (fun _ _ h => h) (fun _ h => h.elim) ?aF ?aB ?aS ?aL ?_; (case aR => repeat (first | exact (by repeat (first | (with_reducible exact HR128.out) | (with_reducible refine Kd.C_alloc ?_ _) | (with_reducible refine Kd.C_drewN ?_ _) | (with_reducible refine Kd.C_drew ?_) | exact HR128.out)) | (with_reducible refine Kd.C_alloc ?_ _) | (with_reducible refine Kd.C_drewN ?_ _) | (with_reducible refine Kd.C_drew ?_))); (case aB => exact (bw_ HB.out)); (case aF => exact (fun k_ hk => Kd.fresh' (Kd.R_lt (by (with_reducible repeat (first | apply Kd.R_alloc | apply Kd.R_drewN | apply Kd.R_drew)); exact HO_4.out)) k_ hk)); (case aO => exact ((Kd.R_nil _ _ _ _ (fun k_ => some k_ ≠ (.slice Ao32 x4_2.length co32 : Value).ownBlock)))); (case aS => exact (below_size (bw_ HB.out))); (case aL => have := LMc27.out; omega); intro v130 w34 ho hb hg hat; rw [← Ny129.out] at ho; have n0_ := Aside0.mk (Kd.R_after (Kd.R_apart_nil (by (with_reducible repeat (first | apply Kd.R_alloc | apply Kd.R_drewN | apply Kd.R_drew)); exact HO_4.out)) hg hat); have n1_ := Aside0.mk (hb); have n2_ := Aside0.mk ((show Kd.C Kd.string w34 Ao32 y125.length y125 from by rw [Ny125.out]; exact Kd.C_take (m := (t104 : Int).toNat) ((Kd.R_reads' (Kd.R_after (Kd.R_apart_nil (by (with_reducible repeat (first | apply Kd.R_alloc | apply Kd.R_drewN | apply Kd.R_drew)); exact HO_4.out)) hg hat)).2.2) KL33.out)); have n3_ := Aside0.mk (ho); clear HO_4 HB HR128; have HO_4 := n0_; have HB := n1_; have HR128 := n2_; have HO131 := n3_; clear n0_ n1_ n2_ n3_; clear ho hb hg hat; have p132 : 0 ≤ (x6_2 : Int) := of_decide_eq_true (by assumption); have q132 : x6_2 < (l0.length : Int) := of_decide_eq_true (by assumption); obtain ⟨ad132, e132, hx132_0⟩ := Kd.at_string HR0.out x6_2 p132 q132; obtain rfl : ad103 = ad132 := (by injection e132); replace hx132_0 := pw_cell_below HB.out hx132_0; replace p132 := eq_true p132; replace q132 := eq_true q132) | ((with_reducible refine gate_builtin (b := .append) (xs := #[.tmp 53, .tmp 58]) rfl ?_); at_builtin; refine Kd.R_append Kd.string (w0 := w) w.heap.size rfl (.tmp 53) (.tmp 58) 22 9 (.string ⟨#[]⟩) 16 rfl Try.underlying22 info9 rfl (by decide) (by omega) v130 y129 (rdOf ByteArray.empty l0 x6_2) [.string (rdOf ByteArray.empty l0 x6_2)] (fun k_ => some k_ ≠ (.slice Ao32 x4_2.length co32 : Value).ownBlock) (fun _ => False) rfl rfl ?aP (fun _ hk => hk.elim) ?aF ?aO ?aB ?aS ?aL ?_; (case aP => exact rfl); (case aB => exact (bw_ HB.out)); (case aF => exact (fun k_ hk => Kd.fresh' (Kd.R_lt (by (with_reducible repeat (first | apply Kd.R_alloc | apply Kd.R_drewN | apply Kd.R_drew)); exact HO_4.out)) k_ hk)); (case aO => exact (by (with_reducible repeat (first | apply Kd.R_alloc | apply Kd.R_drewN | apply Kd.R_drew)); exact HO131.out)); (case aS => exact (below_size (bw_ HB.out))); (case aL => have := LMc28.out; omega); intro v134 w35 ho hb hg hat; rw [← Ny133.out] at ho; have n0_ := Aside0.mk (Kd.R_after (ok := (fun _ => True)) (by (with_reducible repeat (first | apply Kd.R_alloc | apply Kd.R_drewN | apply Kd.R_drew)); exact HO_4.out) hg hat); have n1_ := Aside0.mk (hb); have n2_ := Aside0.mk ((show Kd.C Kd.string w35 Ao32 y125.length y125 from by rw [Ny125.out]; exact Kd.C_take (m := (t104 : Int).toNat) ((Kd.R_reads' (Kd.R_after (ok := (fun _ => True)) (by (with_reducible repeat (first | apply Kd.R_alloc | apply Kd.R_drewN | apply Kd.R_drew)); exact HO_4.out) hg hat)).2.2) KL33.out)); have n3_ := Aside0.mk (ho); clear HO_4 HB HR128 HO131; have HO_4 := n0_; have HB := n1_; have HR128 := n2_; have HO135 := n3_; clear n0_ n1_ n2_ n3_; clear ho hb hg hat; have q36 : (t104 : Int) ≤ ((x4_2.length : Int) : Int) := of_decide_eq_true (by assumption); obtain ⟨i036, hi036, _, hsz36, _⟩ := info_parts info9; have hroom36 : x4_2.length ≤ co32 := (Kd.R_reads' HO_4.out).2.1; have hC36 : Kd.C Kd.string _ Ao32 x4_2.length x4_2 := (Kd.R_reads' HO_4.out).2.2; have q036 : (0 : Int) ≤ (t104 : Int) := of_decide_eq_true (by assumption); have hcut36 := cut_from (P := Try.prog) 22 9 .i64 Try.underlying22 hi036 1 hsz36 Ao32 x4_2.length co32 t104 q036 q36; have hr36 := Kd.C_drop (m := (t104 : Int).toNat) (c := co32) hC36 (by omega) hroom36; obtain ⟨A36, hA36⟩ : ∃ A1, A1 = (if co32 = (t104 : Int).toNat then Ao32 else (Ao32 : Option Addr).map (·.add ((t104 : Int).toNat * 1))) := ⟨_, rfl⟩; obtain ⟨c36, hc36⟩ : ∃ c1, c1 = co32 - (t104 : Int).toNat := ⟨_, rfl⟩; have hy36 : y136.length = x4_2.length - (t104 : Int).toNat := (by rw [Ny136.out, List.length_drop] <;> omega); rw [show (x4_2).drop (t104 : Int).toNat = y136 from Ny136.out.symm] at hr36; replace hr36 : Kd.C Kd.string _ A36 y136.length y136 := (by rw [hA36]; exact hr36); rw [← hy36, ← hA36, ← hc36] at hcut36; have HR139 := Aside0.mk hr36; have HC139 := Aside0.mk (show y136.length ≤ c36 from by rw [hy36, hc36]; exact Nat.sub_le_sub_right hroom36 _); clear hr36 hC36 hroom36 hi036 hsz36 hc36; have KY36 := Aside0.mk hy36; have KA36 := Aside0.mk hA36; clear hy36 hA36; have KL36 := Aside0.mk (show (t104 : Int).toNat ≤ x4_2.length from by omega); replace q36 := eq_true q36) | ((with_reducible refine gate_builtin (b := .append) (xs := #[.tmp 60, .tmp 63]) rfl ?_); at_builtin; refine Kd.R_append_rows Kd.string (w0 := w) w.heap.size rfl (.tmp 60) (.tmp 63) 22 9 (.string ⟨#[]⟩) 16 rfl Try.underlying22 info9 rfl (by decide) (by omega) v134 y133 y136 _ _ _ (fun k_ => some k_ ≠ (.slice Ao32 x4_2.length co32 : Value).ownBlock) (fun _ => False) rfl rfl ?aO ?aR (fun _ _ h => h) (fun _ h => h.elim) ?aF ?aB ?aS ?aL ?_; (case aR => repeat (first | exact (by repeat (first | (with_reducible exact HR139.out) | (with_reducible refine Kd.C_alloc ?_ _) | (with_reducible refine Kd.C_drewN ?_ _) | (with_reducible refine Kd.C_drew ?_) | exact HR139.out)) | (with_reducible refine Kd.C_alloc ?_ _) | (with_reducible refine Kd.C_drewN ?_ _) | (with_reducible refine Kd.C_drew ?_))); (case aB => exact (bw_ HB.out)); (case aF => exact (fun k_ hk => Kd.fresh' (Kd.R_lt (by (with_reducible repeat (first | apply Kd.R_alloc | apply Kd.R_drewN | apply Kd.R_drew)); exact HO_4.out)) k_ hk)); (case aO => exact (by (with_reducible repeat (first | apply Kd.R_alloc | apply Kd.R_drewN | apply Kd.R_drew)); exact HO135.out)); (case aS => exact (below_size (bw_ HB.out))); (case aL => have := LMc31.out; omega); intro v141 w37 ho hb hg hat; rw [← Ny140.out] at ho; have n0_ := Aside0.mk (Kd.R_after (ok := (fun _ => True)) (by (with_reducible repeat (first | apply Kd.R_alloc | apply Kd.R_drewN | apply Kd.R_drew)); exact HO_4.out) hg hat); have n1_ := Aside0.mk (hb); have n2_ := Aside0.mk ((show Kd.C Kd.string w37 Ao32 y125.length y125 from by rw [Ny125.out]; exact Kd.C_take (m := (t104 : Int).toNat) ((Kd.R_reads' (Kd.R_after (ok := (fun _ => True)) (by (with_reducible repeat (first | apply Kd.R_alloc | apply Kd.R_drewN | apply Kd.R_drew)); exact HO_4.out) hg hat)).2.2) KL33.out)); have n3_ := Aside0.mk ((show Kd.C Kd.string w37 A36 y136.length y136 from by rw [Ny136.out, KA36.out]; exact Kd.C_drop (m := (t104 : Int).toNat) (c := co32) ((Kd.R_reads' (Kd.R_after (ok := (fun _ => True)) (by (with_reducible repeat (first | apply Kd.R_alloc | apply Kd.R_drewN | apply Kd.R_drew)); exact HO_4.out) hg hat)).2.2) KL36.out ((Kd.R_reads' (Kd.R_after (ok := (fun _ => True)) (by (with_reducible repeat (first | apply Kd.R_alloc | apply Kd.R_drewN | apply Kd.R_drew)); exact HO_4.out) hg hat)).2.1))); have n4_ := Aside0.mk (ho); clear HO_4 HB HR128 HR139 HO135; have HO_4 := n0_; have HB := n1_; have HR128 := n2_; have HR139 := n3_; have HO142 := n4_; clear n0_ n1_ n2_ n3_ n4_; clear ho hb hg hat)))
              go_roundg k2
              case measure => have := HK1.out; have := HK2.out; omega
              case rel => exact ⟨(y140), (wrap64 (x6_2 + 1)), (by first | rfl | (simp; done) | (simp [*]; done)), H', ⟨by have := HK1.out; have := HK2.out; omega⟩, ⟨by (with_reducible repeat (first | apply Kd.R_alloc | apply Kd.R_drewN | apply Kd.R_drew)); exact Kd.R_mono HO142.out (fun _ hk => trivial)⟩, ⟨by repeat (first | (with_reducible first | exact HB.out | apply below_alloc | apply pw_below_drewN | apply below_drew1) | exact HB.out)⟩⟩
             ·rw [if_neg c31] at H
              exact absurd H (by simp)
            ·rw [if_neg c28] at H
             exact absurd H (by simp)
           ·rw [if_neg c27] at H
            exact absurd H (by simp)
          ·rw [if_neg c26] at H
           exact absurd H (by simp)
         ·rw [if_neg c25] at H
          exact absurd H (by simp)
       ·rw [if_neg c6] at H
        exact absurd H (by simp)
      ·rw [if_neg c5] at H
       have c5b0 : decide (x6_2 < (l0.length : Int)) = false := decide_eq_false c5
       clear c5
       by_cases c38 : (x4_2.length : Int) > 4096
       ·rw [if_pos c38] at H
        have c38b0 : decide (4096 < (x4_2.length : Int)) = true := decide_eq_true c38
        have c38b1 : decide (4096 < x4_2.length) = true := decide_eq_true (by omega)
        clear c38
        simp only [Option.some.injEq, Prod.mk.injEq] at H
        obtain ⟨rfl, rfl⟩ := H
        obtain ⟨Ao39, co39, eo39⟩ := Kd.R_slice HO_4.out
        subst eo39
        go_wp2
        repeat (go_quiet (fail); try go_wp2)
        go_ret2
        exact ⟨_, by first | rfl | (simp [errW_none, errW_some] <;> rfl) | (simp [*, errW_none, errW_some] <;> rfl), by first | exact Kd.R_nil _ _ _ _ _ | exact Kd.N_nil _ _ _ _ _ | exact Kd.V_nil _ _ _ _ _ | exact Kd.Q_nil _ _ _ _ _ | exact Kd.S_nil _ _ _ _ _, by repeat (first | (with_reducible first | exact HB.out | apply below_alloc | apply pw_below_drewN | apply below_drew1) | exact HB.out)⟩
       ·rw [if_neg c38] at H
        have c38b0 : decide (4096 < (x4_2.length : Int)) = false := decide_eq_false c38
        have c38b1 : decide (4096 < x4_2.length) = false := decide_eq_false (by omega)
        clear c38
        simp only [Option.some.injEq, Prod.mk.injEq] at H
        obtain ⟨rfl, rfl⟩ := H
        obtain ⟨Ao40, co40, eo40⟩ := Kd.R_slice HO_4.out
        subst eo40
        go_wp2
        repeat (go_quiet (fail); try go_wp2)
        go_ret2
        exact ⟨_, by first | rfl | (simp [errW_none, errW_some] <;> rfl) | (simp [*, errW_none, errW_some] <;> rfl), by (with_reducible repeat (first | apply Kd.R_alloc | apply Kd.R_drewN | apply Kd.R_drew)); exact HO_4.out, by repeat (first | (with_reducible first | exact HB.out | apply below_alloc | apply pw_below_drewN | apply below_drew1) | exact HB.out)⟩
end Go.Proofs.Ytomgfhapmhagnaa.P
end

section
namespace Go.Proofs.Ytomgfhapmhagnaa.Txt
set_option linter.unusedVariables false
set_option linter.unusedSimpArgs false
open Go.RowKit Go.Proofs.YtomgfhapmhagnaaW.PrintWords Go.Proofs.Ytomgfhapmhagnaa.P
def strsT (l : List T) : List ByteArray := l.map bs
theorem strsT_length (l : List T) : (strsT l).length = l.length := List.length_map ..
def txtsT (l : List ByteArray) : List T := l.map (·.data.toList)
theorem txtsT_strsT (l : List T) : txtsT (strsT l) = l := by
  unfold strsT txtsT
  rw [List.map_map]
  conv => rhs; rw [← List.map_id l]
  exact List.map_congr_left (fun x _ => rfl)
theorem R_txtsT {e : Nat} {w : World} {base : Nat} {ok : Nat → Prop} {v : Value} {l : List ByteArray} (h : Kd.R Kd.string e w base ok v l) : Kd.R text e w base ok v (txtsT l) := by
  have ho := Kd.own_of_R h
  refine Kd.R_of_own ?_ h.1
  rw [show (txtsT l).length = l.length from List.length_map ..]
  have e : encs encStr (txtsT l) = encs Value.string l := by
    unfold txtsT
    simp only [encs, List.map_map]
    exact List.map_congr_left (fun x _ => rfl)
  rw [e]
  exact ho
theorem built_nil : built [] = [] := by have := built_le []; simpa using this
theorem C_strsT {w : World} {A : Option Addr} {n : Nat} {xs : List T} (h : text.C w A n xs) : Kd.string.C w A n (strsT xs) := by
  obtain ⟨h1, h2, h3⟩ := h
  refine ⟨by rw [strsT_length]; exact h1, h2, fun hn => ?_⟩
  obtain ⟨ad, e, hc⟩ := h3 hn
  refine ⟨ad, e, fun j p hj => ?_⟩
  unfold strsT at hj
  rw [List.getElem?_map, Option.map_eq_some_iff] at hj
  obtain ⟨s, hs, rfl⟩ := hj
  obtain ⟨c, hcl, hK, hcell⟩ := hc j s hs
  exact ⟨c, hcl, hK, hcell⟩
theorem rd_strsT (l : List T) (i : Nat) (hi : i < l.length) : rdOf ByteArray.empty (strsT l) (i : Int) = bs (l.getD i []) := by
  unfold rdOf strsT
  simp [hi]
theorem from_loop (l : List T) (s : ByteArray) (hl : l.length < 4611686018427387904) : ∀ (n i : Nat), i + n = l.length → (∀ j, j < i → l.getD j [] < s.data.toList) → ∀ k, gristmillref03_From.l0 (k + n + 1) (strsT l) s (i : Int) = some ((fromOf l s.data.toList : Nat) : Int) := by
  intro n
  induction n with
  | zero =>
    intro i hi h k
    rw [gristmillref03_From.l0, if_neg (by rw [strsT_length]; omega), fromOf_is l s.data.toList i (by omega) h (fun h => by omega)]
  | succ n ih =>
    intro i hi h k
    have hil : i < l.length := by omega
    have e : wrap64 ((i : Int) + 1) = ((i + 1 : Nat) : Int) := by unfold wrap64; omega
    rw [show k + (n + 1) + 1 = (k + n + 1) + 1 by omega, gristmillref03_From.l0, if_pos (by rw [strsT_length]; omega), if_pos (by omega), rd_strsT l i hil, less_is, bs_data, e]
    by_cases hlt : l.getD i [] < s.data.toList
    · rw [if_pos (decide_eq_true hlt)]
      refine ih (i + 1) (by omega) (fun j hj => ?_) k
      rcases Nat.lt_or_ge j i with h1 | h1
      · exact h j h1
      · rw [show j = i by omega]; exact hlt
    · rw [if_neg (by simpa using hlt), fromOf_is l s.data.toList i (by omega) h (fun _ => hlt)]
theorem from_is (l : List T) (s : ByteArray) (hl : l.length < 4611686018427387904) (k : Nat) (hk : l.length < k) : gristmillref03_From.f k (strsT l) s = some ((fromOf l s.data.toList : Nat) : Int) := by
  have := from_loop l s hl l.length 0 (by omega) (fun j hj => by omega) (k - l.length - 1)
  rw [show k - l.length - 1 + l.length + 1 = k by omega] at this
  exact this
theorem put_step (ts : List T) (hts : ts.length < 8796093022208) (i k : Nat) (hi : i < ts.length) (out : List T) (hout : out.length ≤ i) (hk : ts.length < k) :
    gristmillref03_Build.l1 (k + 1) (strsT ts) (strsT out) (i : Int) = gristmillref03_Build.l1 k (strsT ts) (strsT (putT out (ts.getD i []))) ((i + 1 : Nat) : Int) := by
  have e : wrap64 ((i : Int) + 1) = ((i + 1 : Nat) : Int) := by unfold wrap64; omega
  have hf := fromOf_le out (ts.getD i [])
  rw [gristmillref03_Build.l1, if_pos (by rw [strsT_length]; omega), if_pos (by omega), rd_strsT ts i hi, from_is out _ (by omega) k (by omega), bs_data, e]
  generalize ts.getD i [] = t at *
  simp only [Option.bind_some, Int.toNat_natCast]
  have hT : (strsT out).take (fromOf out t) = strsT (out.take (fromOf out t)) := by unfold strsT; rw [List.map_take]
  have hD : (strsT out).drop (fromOf out t) = strsT (out.drop (fromOf out t)) := by unfold strsT; rw [List.map_drop]
  have hne : has out t = false → strsT (out.take (fromOf out t)) ++ [bs t] ++ strsT (out.drop (fromOf out t)) = strsT (putT out t) := by
    intro h
    unfold putT
    rw [h, if_neg (by decide)]
    unfold strsT
    simp
  rw [hT, hD]
  have l1 : (strsT (out.take (fromOf out t))).length = fromOf out t := by rw [strsT_length, List.length_take]; omega
  have l2 : (strsT (out.drop (fromOf out t))).length = out.length - fromOf out t := by rw [strsT_length, List.length_drop]
  have hA : (if ((fromOf out t : Nat) : Int) ≤ ((strsT out).length : Int) then
      (if ([] : List ByteArray).length + (strsT (out.take (fromOf out t))).length < 8796093022208 then
        (if (([] : List ByteArray) ++ strsT (out.take (fromOf out t))).length < 8796093022208 then
          (if (([] : List ByteArray) ++ strsT (out.take (fromOf out t)) ++ [bs t]).length + (strsT (out.drop (fromOf out t))).length < 8796093022208 then
            gristmillref03_Build.l1 k (strsT ts) ([] ++ strsT (out.take (fromOf out t)) ++ [bs t] ++ strsT (out.drop (fromOf out t))) ((i + 1 : Nat) : Int) else none) else none) else none) else none)
      = gristmillref03_Build.l1 k (strsT ts) (strsT (out.take (fromOf out t)) ++ [bs t] ++ strsT (out.drop (fromOf out t))) ((i + 1 : Nat) : Int) := by
    rw [if_pos (by rw [strsT_length]; omega), if_pos (by rw [l1, List.length_nil]; omega), List.nil_append, if_pos (by rw [l1]; omega), if_pos (by rw [List.length_append, l1, l2, List.length_singleton]; omega)]
  by_cases hlt : fromOf out t < out.length
  · rw [if_pos (by rw [strsT_length]; omega), if_pos (by omega), rd_strsT out _ hlt]
    by_cases heq : out.getD (fromOf out t) [] = t
    · have hh : has out t = true := decide_eq_true ⟨hlt, heq⟩
      rw [if_pos (by rw [heq])]
      unfold putT
      rw [if_pos hh]
    · have hh : has out t = false := decide_eq_false (fun h => heq h.2)
      rw [if_neg (by rw [ByteArray.toList_eq, ByteArray.toList_eq]; exact heq), hA, hne hh]
  · have hh : has out t = false := decide_eq_false (fun h => hlt h.1)
    rw [if_neg (by rw [strsT_length]; omega), if_pos (by omega), hA, hne hh]
theorem put_loop (ts : List T) (hts : ts.length < 8796093022208) : ∀ (n i : Nat), i + n = ts.length → ∀ k (out : List T), out = built (ts.take i) →
    gristmillref03_Build.l1 (k + ts.length + 1 + n + 1) (strsT ts) (strsT out) (i : Int) = if 4096 < (built ts).length then some ([], 1) else some (strsT (built ts), 0) := by
  intro n
  induction n with
  | zero =>
    intro i hi k out ho
    rw [List.take_of_length_le (by omega)] at ho
    rw [gristmillref03_Build.l1, if_neg (by rw [strsT_length]; omega), ho]
    by_cases h : 4096 < (built ts).length
    · rw [if_pos (by rw [strsT_length]; omega), if_pos h]
    · rw [if_neg (by rw [strsT_length]; omega), if_neg h]
  | succ n ih =>
    intro i hi k out ho
    have hil : i < ts.length := by omega
    have hol : out.length ≤ i := by rw [ho]; exact Nat.le_trans (built_le _) (by rw [List.length_take]; omega)
    rw [show k + ts.length + 1 + (n + 1) + 1 = (k + ts.length + 1 + n + 1) + 1 by omega, put_step ts hts i _ hil out hol (by omega)]
    exact ih (i + 1) (by omega) k _ (by rw [ho, built_take ts i hil])
theorem long_loop (ts : List T) (hts : ts.length < 8796093022208) : ∀ (n i : Nat), i + n = ts.length → ∀ k, gristmillref03_Build.l0 (k + n + 1) (strsT ts) (i : Int) = if (ts.drop i).any (fun t => decide (64 < t.length)) then some ([], 1) else gristmillref03_Build.l1 k (strsT ts) [] 0 := by
  intro n
  induction n with
  | zero =>
    intro i hi k
    rw [gristmillref03_Build.l0, if_neg (by rw [strsT_length]; omega), List.drop_of_length_le (by omega)]
    rfl
  | succ n ih =>
    intro i hi k
    have hil : i < ts.length := by omega
    have e : wrap64 ((i : Int) + 1) = ((i + 1 : Nat) : Int) := by unfold wrap64; omega
    have hd : ts.drop i = ts.getD i [] :: ts.drop (i + 1) := by rw [List.drop_eq_getElem_cons hil, List.getD_eq_getElem?_getD, List.getElem?_eq_getElem hil]; rfl
    rw [show k + (n + 1) + 1 = (k + n + 1) + 1 by omega, gristmillref03_Build.l0, if_pos (by rw [strsT_length]; omega), if_pos (by omega), rd_strsT ts i hil, e, bs_size, hd, List.any_cons]
    by_cases h : 64 < (ts.getD i []).length
    · rw [if_pos (by omega), decide_eq_true h, Bool.true_or, if_pos rfl]
    · rw [if_neg (by omega), decide_eq_false h, Bool.false_or, ih (i + 1) (by omega) k]
theorem refbuild_is (ts : List T) (hts : ts.length < 8796093022208) : gristmillref03_Build.f (ts.length + 1 + ts.length + 1 + ts.length + 1) (strsT ts) = some (match build ts with | none => ([], 1) | some l => (strsT l, 0)) := by
  have h1 := long_loop ts hts ts.length 0 (by omega) (ts.length + 1 + ts.length + 1)
  have h2 := put_loop ts hts ts.length 0 (by omega) 0 [] (by rw [List.take_zero, built_nil])
  rw [Nat.zero_add] at h2
  unfold gristmillref03_Build.f
  refine h1.trans ?_
  rw [List.drop_zero]
  have h2' : gristmillref03_Build.l1 (ts.length + 1 + ts.length + 1) (strsT ts) [] 0 = if 4096 < (built ts).length then some ([], 1) else some (strsT (built ts), 0) := h2
  rw [h2']
  unfold build tooLong
  by_cases h : (ts.any fun t => decide (64 < t.length)) = true
  · rw [if_pos h, if_pos h]
  · rw [if_neg h, if_neg h]
    by_cases h4 : 4096 < (built ts).length
    · rw [if_pos h4, if_pos h4]
    · rw [if_neg h4, if_neg h4]
end Go.Proofs.Ytomgfhapmhagnaa.Txt
end

section
namespace Go.Proofs.Ytomgfhapmhagnaa.Txt
set_option linter.unusedVariables false
set_option linter.unusedSimpArgs false
open Go.RowKit Go.Proofs.YtomgfhapmhagnaaW.PrintWords Go.Proofs.Ytomgfhapmhagnaa.P
def errOf (o : Option (List T)) : Int := match o with | none => 1 | some _ => 0
theorem refbuild_calls (ts : List T) (A : Option Addr) (n c : Nat) (w : World) (hC : text.C w A n ts) (hc : n ≤ c) (hm : n * 16 < 140737488355328) :
    Calls Try.prog 11 #[.slice A n c] w fun e w' => ∃ v, e = .returned (.tuple #[v, .int .i64 (errOf (build ts))]) ∧ text.R 9 w' w.heap.size (fun _ => True) v ((build ts).getD []) ∧ Below w.heap.size w w' := by
  have hn : n = (strsT ts).length := by rw [strsT_length]; exact hC.1.symm
  have hl : ts.length < 8796093022208 := by have := hC.1; omega
  subst hn
  have hb := refbuild_is ts hl
  cases h : build ts with
  | none =>
    rw [h] at hb
    refine (gristmillref03_Build.calls _ A c (strsT ts) [] 1 w (C_strsT hC) hc hb).mono ?_
    rintro e w' ⟨v, rfl, hr, hbl⟩
    exact ⟨v, rfl, R_txtsT hr, hbl⟩
  | some l =>
    rw [h] at hb
    refine (gristmillref03_Build.calls _ A c (strsT ts) (strsT l) 0 w (C_strsT hC) hc hb).mono ?_
    rintro e w' ⟨v, rfl, hr, hbl⟩
    refine ⟨v, rfl, ?_, hbl⟩
    have := R_txtsT hr
    rw [txtsT_strsT] at this
    exact this
end Go.Proofs.Ytomgfhapmhagnaa.Txt
end

section
namespace Go.Proofs.Ytomgfhapmhagnaa.Lib
set_option linter.unusedVariables false
set_option linter.unusedSimpArgs false
open Go.RowKit Go.Proofs.YtomgfhapmhagnaaW.PrintWords
open Go.ChangeShapes Go.WideShapes Go.ChangeAt
theorem open_nums {H : Type} {enc : TypeId × Value → H} {P : Program} {W : World} {base : Nat} {held : Bool} {t e : TypeId} {k : IntKind} {a : Option Addr} {len cap : Nat} {d : DataW H} {p : List MemPlace}
    (ht : P.underlying t = some (.slice e)) (he : P.underlying e = some (.int k)) (hc : P.cellsOf e = 1)
    (h : DataW.Trod enc P W base (fun _ => true) held t (.slice a len cap) d p) :
    ∃ xs : List Int, len ≤ cap ∧ cap ≤ maxLen ∧ (Kd.int k).C W a len xs ∧ ∀ x ∈ xs, (Lit.int k x).wf = true := by
  obtain ⟨fuel, hf⟩ := h
  rcases open_ints ht he hc hf with ⟨hcs, _⟩ | ⟨x, l, c, zs, hcs, _, hl, hm, hz, _, hcell, hwz⟩
  · simp [Value.cells] at hcs
    obtain ⟨rfl, rfl, rfl⟩ := hcs
    exact ⟨[], Nat.le_refl _, by decide, Kd.C_nil _ _, fun _ h => by cases h⟩
  · simp [Value.cells] at hcs
    obtain ⟨rfl, rfl, rfl⟩ := hcs
    refine ⟨zs.take len, hl, hm, ?_, fun y hy => hwz y (List.mem_of_mem_take hy)⟩
    have hz' : zs.length = cap := by simpa using hz
    refine ⟨by rw [List.length_take, hz']; exact Nat.min_eq_left hl, Nat.le_trans hl (by simpa [maxLen] using hm), fun hn => ⟨x, rfl, fun j p hj => ⟨[.int k p], rfl, rfl, fun i u hu => ?_⟩⟩⟩
    have hi : i = 0 := by
      rcases i with _ | i
      · rfl
      · simp at hu
    subst hi
    simp only [List.getElem?_cons_zero, Option.some.injEq] at hu
    subst hu
    have e1 : (Kd.int k).sz = 1 := rfl
    have hjl : j < len := by
      have := (List.getElem?_eq_some_iff.1 hj).1
      rw [List.length_take] at this
      omega
    rw [e1, Nat.mul_one, Nat.add_zero, hcell j (by omega), List.getD_eq_getElem?_getD]
    rw [List.getElem?_take, if_pos hjl] at hj
    rw [hj]; rfl
end Go.Proofs.Ytomgfhapmhagnaa.Lib
end

section
namespace Go.Proofs.Ytomgfhapmhagnaa.Txt
set_option linter.unusedVariables false
set_option linter.unusedSimpArgs false
open Go.RowKit Go.Proofs.YtomgfhapmhagnaaW.PrintWords
open Go.ChangeShapes Go.WideShapes Go.ChangeAt
theorem open_texts {H : Type} {enc : TypeId × Value → H} {P : Program} {W : World} {base : Nat} {held : Bool} {t e : TypeId} {a : Option Addr} {len cap : Nat} {d : DataW H} {p : List MemPlace}
    (ht : P.underlying t = some (.slice e)) (he : P.underlying e = some .string) (hc : P.cellsOf e = 1)
    (h : DataW.Trod enc P W base (fun _ => true) held t (.slice a len cap) d p) :
    ∃ xs : List T, len ≤ cap ∧ text.C W a len xs ∧ ((len = 0) ∨ ∃ el sp, d = .slice el sp ∧ el.length = len) := by
  obtain ⟨fuel, hf⟩ := h
  rcases open_strings ht he hc hf with ⟨hcs, _⟩ | ⟨x, l, c, ss, hcs, _, hl, hm, hz, hx, hcell, _⟩
  · simp [Value.cells] at hcs
    obtain ⟨rfl, rfl, rfl⟩ := hcs
    exact ⟨[], Nat.le_refl _, Kd.C_nil _ _, .inl rfl⟩
  · simp [Value.cells] at hcs
    obtain ⟨rfl, rfl, rfl⟩ := hcs
    have hz' : ss.length = cap := by simpa using hz
    simp only [Prod.mk.injEq] at hx
    refine ⟨(ss.take len).map (·.data.toList), hl, ?_, .inr ⟨_, _, hx.1, by simp [strs]; omega⟩⟩
    refine ⟨by rw [List.length_map, List.length_take, hz']; exact Nat.min_eq_left hl, Nat.le_trans hl (by simpa [maxLen] using hm), fun hn => ⟨x, rfl, fun j q hj => ⟨[.string (bs q)], rfl, rfl, fun i u hu => ?_⟩⟩⟩
    have hi : i = 0 := by
      rcases i with _ | i
      · rfl
      · simp at hu
    subst hi
    simp only [List.getElem?_cons_zero, Option.some.injEq] at hu
    subst hu
    have e1 : text.sz = 1 := rfl
    have hjl : j < len := by
      have := (List.getElem?_eq_some_iff.1 hj).1
      rw [List.length_map, List.length_take] at this
      omega
    rw [e1, Nat.mul_one, Nat.add_zero, hcell j (by omega), List.getD_eq_getElem?_getD]
    rw [List.getElem?_map, List.getElem?_take, if_pos hjl, Option.map_eq_some_iff] at hj
    obtain ⟨s, hs, rfl⟩ := hj
    rw [hs]; rfl
theorem texts_sized_lt {H : Type} {P : Program} {len : Nat} {d : DataW H} {e : TypeId} (hD : (len = 0) ∨ ∃ el sp, d = DataW.slice el sp ∧ el.length = len) (hb : P.bytesOf e = 16)
    (h : ∀ el sp, d = DataW.slice el sp → (el.length + sp.length) * P.bytesOf e ≤ reachBytes) : len * 16 < 140737488355328 := by
  rcases hD with rfl | ⟨el, sp, he, rfl⟩
  · decide
  · have h1 := h el sp he
    rw [hb] at h1
    have h2 := reachBytes_lt
    have h3 : (2 : Nat) ^ 47 = 140737488355328 := by decide
    have h4 : el.length * 16 ≤ (el.length + sp.length) * 16 := Nat.mul_le_mul_right _ (Nat.le_add_right _ _)
    omega
end Go.Proofs.Ytomgfhapmhagnaa.Txt
end

section
namespace Go.Proofs.Ytomgfhapmhagnaa.dictBuilds
set_option linter.unusedVariables false
set_option linter.unusedSimpArgs false
open Go.RowKit Go.Proofs.YtomgfhapmhagnaaW.PrintWords Go.Proofs.Ytomgfhapmhagnaa.Lib
open Go.ChangeShapes Go.WideShapes Go.ChangeAt
open Go.ChangeMaps (open_string shut_string)
theorem own : ownKnob Try.prog.godebug = none := by kernel_rfl
theorem laidOut : laidOutB Try.prog = true := by kernel_rfl
open Go.Proofs.Ytomgfhapmhagnaa.Txt Go.Proofs.YtomgfhapmhagnaaW.PrintLast Go.Proofs.YtomgfhapmhagnaaW.PrintMore
set_option maxRecDepth 100000 in
set_option maxHeartbeats 1600000 in
theorem walk (ts asks : List T) (ids : List Int) (A : Option Addr) (n c : Nat) (A2 : Option Addr) (n2 c2 : Nat) (A3 : Option Addr) (n3 c3 : Nat) (w : World) (hC : text.C w A n ts) (hc : n ≤ c) (hm : n * 16 < 140737488355328) (hC2 : text.C w A2 n2 asks) (hC3 : Kd.C (Kd.int .i64) w A3 n3 ids) :
    Calls Try.prog 3 #[.slice A n c, .slice A2 n2 c2, .slice A3 n3 c3] w fun e w' => e = .returned (.bool true) ∧ Below w.heap.size w w' := by
  have HC := Aside0.mk hC
  have HC2 := Aside0.mk hC2
  have HC3 := Aside0.mk hC3
  have HL := Aside0.mk (show ts.length * 16 ≤ 140737488355328 by rw [show ts.length = n from hC.1]; omega)
  have HR := Aside0.mk (fun w (h : text.C w A n ts) => refbuild_calls ts A n c w h hc hm)
  clear hC hC2 hC3
  go_enter Try.func3, Try.ntmps3
  go_wp2_with fail
  refine (awake_calls w).mono ?_
  rintro e w1 ⟨rfl, hb⟩
  have HB1 := Aside0.mk hb
  have HC1 := Aside0.mk (Kd.C_below HC.out hb)
  clear hb
  go_wp2_with fail
  refine (build_calls ts A n c w1 HC1.out HL.out).mono ?_
  cases hbu : build ts
  case none =>
    rintro e w2 ⟨rfl, hb⟩
    have HB2 := Aside0.mk (below_then HB1.out HB1.out.size hb)
    have H2 := Aside0.mk (HR.out w2 (Kd.C_below HC.out HB2.out))
    rw [hbu] at H2
    clear hb hbu
    go_wp2_with fail
    refine H2.out.mono ?_
    rintro e w3 ⟨v, rfl, hr, hb⟩
    have HB3 := Aside0.mk (below_then HB2.out HB2.out.size hb)
    simp only [errOf]
    clear hr hb H2 HR
    go_wp2_with fail
    go_ret
    exact ⟨rfl, HB3.out⟩
  case some l =>
    rintro e w2 ⟨⟨g, rfl, hg, hs⟩, hb⟩
    have HB2 := Aside0.mk (below_then HB1.out HB1.out.size hb)
    have H2 := Aside0.mk (HR.out w2 (Kd.C_below HC.out HB2.out))
    rw [hbu] at H2
    obtain ⟨-, hl, ht, hr⟩ := build_fit hbu
    have HS2 := Aside0.mk hs
    have HT := Aside0.mk (fun A1 c1 w (hs : DictAt w g l) (h1 : text.C w A1 l.length l) (h2 : text.C w A2 n2 asks) (h3 : Kd.C (Kd.int .i64) w A3 n3 ids) => tells_calls l asks ids g A1 c1 A2 n2 c2 A3 n3 c3 w hs hr hl ht h1 h2 h3)
    clear hb hbu hs hl ht hr hg
    go_wp2_with fail
    refine H2.out.mono ?_
    rintro e w3 ⟨v, rfl, hr, hb⟩
    have HB3 := Aside0.mk (below_then HB2.out HB2.out.size hb)
    have HS3 := Aside0.mk (HS2.out.below hb)
    obtain ⟨A1, c1, rfl, hc1, hC1⟩ := Kd.R_reads hr
    have HC1' := Aside0.mk (show text.C w3 A1 l.length l from hC1)
    have he : errOf (some l) = 0 := rfl
    rw [he]
    clear hr hb H2 HR hC1 he
    go_wp2_with fail
    refine (HT.out A1 c1 w3 HS3.out HC1'.out (Kd.C_below HC2.out HB3.out) (Kd.C_below HC3.out HB3.out)).mono ?_
    rintro e w4 ⟨rfl, hb⟩
    have HB4 := Aside0.mk (below_then HB3.out HB3.out.size hb)
    clear hb
    go_wp2_with fail
    go_ret
    exact ⟨rfl, HB4.out⟩
set_option maxRecDepth 100000 in
theorem lifted (os : Os) (started : os.Started) (H : Type) (enc : TypeId × Value → H) :
    ReturnsInHanded {} Try.checked os 3 .any (Rows.dictBuildsSpec.pre6 enc Try.prog Try.f3 Rows.dictBuildsRow.domain false) (Rows.dictBuildsSpec.post enc Try.prog Try.f3 false true false false) := by
  refine returnsInHanded_of_change_sized (C := Try.checked) own started (by kernel_rfl) Try.func3
    (ChangeSpec.witness6 (enc := enc) (C := Try.checked) false ⟨#[], #[.slice none 0 0, .slice none 0 0, .slice none 0 0], []⟩ 8 (by kernel_rfl) (by kernel_rfl) (by kernel_rfl) (by kernel_rfl)) ?_
  intro W base args ds gs before hval0 hW hcnd hsz _
  have hval : ∀ (j : Nat) t v, Try.f3.params[j]? = some t → args[j]? = some v → Value.okWide Try.prog W .any base t v := hval0
  have hW' := hW
  obtain ⟨p, q, hA0, hV, rfl, hfz, hnd⟩ := hW
  have hA : DataW.TrodAll enc Try.prog W 0 (fun _ => true) true Try.f3.params.toList args.toList ds p := hA0
  rw [Try.params3] at hA hval
  obtain ⟨v0, vs0, d0, ds0, p0, q0, hargs, rfl, rfl, h0, r0⟩ := trodAll_cons hA
  obtain ⟨v1, vs1, d1, ds1, p1, q1, rfl, rfl, rfl, h1, r1⟩ := trodAll_cons r0
  obtain ⟨v2, vs2, d2, ds2, p2, q2, rfl, rfl, rfl, h2, r2⟩ := trodAll_cons r1
  obtain ⟨rfl, rfl, rfl⟩ := trodAll_nil r2
  obtain rfl : args = #[v0, v1, v2] := by cases args; simp_all
  obtain ⟨rfl, rfl⟩ := trodVars_none hV
  have k0 := h0
  have lt0 : ∀ x ∈ p0, x.block < W.heap.size := by obtain ⟨m, hm⟩ := k0; exact DataW.trod_lt m _ _ _ hm
  obtain ⟨a0, len0, cap0, rfl⟩ := okWide_slice Try.underlying22 (hval 0 22 v0 rfl rfl)
  obtain ⟨xs0, hl0, hC0, hD0⟩ := open_texts Try.underlying22 Try.underlying9 (by kernel_rfl) h0
  have hs0 := texts_sized_lt (P := Try.prog) (e := 9) hD0 (by kernel_rfl) (fun el sp e => sized_slice hsz (j := 0) rfl (by rw [e]; rfl) Try.underlying22)
  have hm0 := Nat.le_of_lt hs0
  have k1 := h1
  have lt1 : ∀ x ∈ p1, x.block < W.heap.size := by obtain ⟨m, hm⟩ := k1; exact DataW.trod_lt m _ _ _ hm
  obtain ⟨a1, len1, cap1, rfl⟩ := okWide_slice Try.underlying22 (hval 1 22 v1 rfl rfl)
  obtain ⟨xs1, hl1, hC1, hD1⟩ := open_texts Try.underlying22 Try.underlying9 (by kernel_rfl) h1
  have hs1 := texts_sized_lt (P := Try.prog) (e := 9) hD1 (by kernel_rfl) (fun el sp e => sized_slice hsz (j := 1) rfl (by rw [e]; rfl) Try.underlying22)
  have hm1 := Nat.le_of_lt hs1
  have k2 := h2
  have lt2 : ∀ x ∈ p2, x.block < W.heap.size := by obtain ⟨m, hm⟩ := k2; exact DataW.trod_lt m _ _ _ hm
  obtain ⟨a2, len2, cap2, rfl⟩ := okWide_slice Try.underlying23 (hval 2 23 v2 rfl rfl)
  obtain ⟨xs2, hl2, hm2, hC2, hb2⟩ := open_nums Try.underlying23 Try.underlying3 (by kernel_rfl) h2
  clear hA0 hval0
  refine (walk xs0 xs1 xs2 a0 len0 cap0 a1 len1 cap1 a2 len2 cap2 W hC0 hl0 hs0 hC1 hC2).mono fun e W' ⟨he, bel⟩ => ?_
  subst he
  exact ⟨_, rfl, _, _, _, [], _, [], hW', trodAll_mk1 (shut_bool Try.underlying4 _), (trodAll_cons_mk (Below.trod laidOut (by kernel_rfl) (of_decide_eq_true (by kernel_rfl)) k0 bel lt0) (trodAll_cons_mk (Below.trod laidOut (by kernel_rfl) (of_decide_eq_true (by kernel_rfl)) k1 bel lt1) (trodAll_cons_mk (Below.trod laidOut (by kernel_rfl) (of_decide_eq_true (by kernel_rfl)) k2 bel lt2) trodAll_mk0))), rfl, bel.frame _, fun h => by cases h⟩
theorem proved : Rows.DictBuildsSaid :=
  OpenClaim.holds_of_wide 3 Try.f3 rfl rfl rfl rfl rfl rfl rfl ⟨rfl, rfl, rfl, rfl, rfl⟩ rfl rfl rfl rfl rfl (by kernel_rfl) Try.func3 (by kernel_rfl)
    (of_decide_eq_true (by kernel_rfl)) (by unfold Func.isWrapper; first | (rw [if_pos (by decide +kernel)]; kernel_rfl) | (rw [if_neg (by decide +kernel)]; exact ⟨rfl, rfl⟩))
    (fun os started H enc _ => lifted os started H enc)
end Go.Proofs.Ytomgfhapmhagnaa.dictBuilds
end
