/- The law's 'tells': a dictionary tells what its row of texts tells. -/
import Derived.Test.YtomgfhapmhagnaaDictW
import Derived.Test.YtomgfhapmhagnaaDictC
import Derived.Test.YtomgfhapmhagnaaRefDict
import Derived.Test.YtomgfhapmhagnaaRefDictB
namespace Go.Proofs.Ytomgfhapmhagnaa.Txt
set_option linter.unusedVariables false
set_option linter.unusedSimpArgs false
open Go.RowKit Go.Proofs.YtomgfhapmhagnaaW.PrintWords Go.Proofs.YtomgfhapmhagnaaW.PrintLast Go.Proofs.YtomgfhapmhagnaaW.PrintMore Go.Proofs.Ytomgfhapmhagnaa.Lib

theorem has_at {l : List T} (h : l.Pairwise (· < ·)) (k : Nat) (hk : k < l.length) : has l (l.getD k []) = true := decide_eq_true (by rw [fromOf_at h k hk]; exact ⟨hk, rfl⟩)
theorem below_drews {b : Nat} {w w' : World} (h : Below b w w') (n : Nat) : Below b w (w'.drewN n) := by
  exact below_drewN h n
set_option maxRecDepth 100000 in
set_option maxHeartbeats 400000 in
theorem tells_calls (l asks : List T) (ids : List Int) (g : Nat) (A1 : Option Addr) (c1 : Nat) (A2 : Option Addr) (n2 c2 : Nat) (A3 : Option Addr) (n3 c3 : Nat) (w : World) (hs : DictAt w g l) (hr : l.Pairwise (· < ·)) (hl : l.length ≤ 4096) (ht : ∀ t ∈ l, t.length ≤ 64)
    (hC1 : text.C w A1 l.length l) (hC2 : text.C w A2 n2 asks) (hC3 : Kd.C (Kd.int .i64) w A3 n3 ids) :
    Calls Try.prog 12 #[.pointer (some ⟨g, 0, none⟩), .slice A1 l.length c1, .slice A2 n2 c2, .slice A3 n3 c3] w fun e w' => e = .returned (.bool true) ∧ Below w.heap.size w w' := by
  have HS := Aside0.mk hs
  have HC1 := Aside0.mk hC1
  have HC2 := Aside0.mk hC2
  have HC3 := Aside0.mk hC3
  have HN2 := Aside0.mk (show asks.length = n2 from hC2.1)
  have HN3 := Aside0.mk (show ids.length = n3 from hC3.1)
  have hn2 := hC2.2.1
  have hn3 := hC3.2.1
  have hlm : maxLen ≤ 9223372036854775807 := by decide
  have HLen := Aside0.mk (fun w (h : DictAt w g l) => len_calls w g l h)
  have HBy := Aside0.mk (fun w (h : DictAt w g l) => bytes_calls w g l h hl ht)
  have HRf := Aside0.mk (fun w (h : text.C w A1 l.length l) => refbytes_calls l A1 l.length c1 w h hl ht)
  have HId := Aside0.mk (fun w (h : DictAt w g l) s => id_calls w g l s h hr (by omega))
  have HFr := Aside0.mk (fun w (h : DictAt w g l) s => from_calls w g l s h hr (by omega))
  have HBe := Aside0.mk (fun w (h : DictAt w g l) s => begin_calls w g l s h hr (by omega))
  have HRB := Aside0.mk (fun w (h : text.C w A1 l.length l) p => refbegin_calls l A1 l.length c1 p w h (by omega))
  have HRF := Aside0.mk (fun w (h : text.C w A1 l.length l) s => reffrom_calls l A1 l.length c1 s w h)
  have HTx := Aside0.mk (fun w (h : DictAt w g l) i (hi : i < l.length) => text_calls w g l h i hi)
  have HTn := Aside0.mk (fun w (h : DictAt w g l) (i : Int) (hi : i < 0 ∨ (l.length : Int) ≤ i) => text_no w g l h i hi)
  have HHas := Aside0.mk (fun k (hk : k < l.length) => has_at hr k hk)
  have HFat := Aside0.mk (fun k (hk : k < l.length) => fromOf_at hr k hk)
  have HHd : Aside0 (∀ s, has l s = decide (fromOf l s < l.length ∧ l.getD (fromOf l s) [] = s)) := ⟨fun s => rfl⟩
  have HAt := Aside0.mk (fun w (h : text.C w A1 l.length l) k (hk : k < l.length) => at_text h k hk)
  have HLD := Aside0.mk (show l.length ≤ 4096 from hl)
  generalize dictBytes l = D at HBy HRf
  obtain ⟨m, hm⟩ : ∃ m, l.length = m := ⟨_, rfl⟩
  simp only [hm] at HLen HC1 HRf HRB HRF HTx HTn HHas HFat HHd HAt HLD hC1 ⊢
  have HM := Aside0.mk hm
  clear hs hr hl ht hC1 hC2 hC3 hm
  go_enter Try.func12, Try.ntmps12
  go_wp2_with fail
  have hmm : ((m : Int) != (m : Int)) = false := by simp
  refine start_ (n := 14) (S := fun w' => True) (ds := []) #[false, false, false, false, false, false, false, false, false, false, false, false, false, false] (by kernel_rfl) rfl rfl trivial (fun hHeld => ?_)
  refine pure_ (i := 0) (N := some 27) (v := ?_) (a' := ?_) #[true, false, false, false, false, false, false, false, false, false, false, false, false, false] rfl rfl (by kernel_rfl) (fun _ _ _ h => h) (Or.inl ⟨by rfl, ?_⟩) ?_ ?_
  rotate_left
  · intro w'
    go_simp
    with_reducible rfl
  rotate_left
  · simp only [Act.put, List.setIfInBounds_toArray, List.set_cons_zero, List.set_cons_succ, i64_w, i32_w]
    rfl
  refine pure_ (i := 2) (N := some 29) (v := ?_) (a' := ?_) #[true, false, true, false, false, false, false, false, false, false, false, false, false, false] rfl rfl (by kernel_rfl) (fun _ _ _ h => h) (Or.inl ⟨by rfl, ?_⟩) ?_ ?_
  rotate_left
  · intro w'
    go_simp
    with_reducible rfl
  rotate_left
  · simp only [Act.put, List.setIfInBounds_toArray, List.set_cons_zero, List.set_cons_succ, i64_w, i32_w]
    rfl
  refine pure_ (i := 3) (N := some 30) (v := ?_) (a' := ?_) #[true, false, true, true, false, false, false, false, false, false, false, false, false, false] rfl rfl (by kernel_rfl) (fun _ _ _ h => h) (Or.inl ⟨by rfl, ?_⟩) ?_ ?_
  rotate_left
  · intro w'
    go_simp
    with_reducible rfl
  rotate_left
  · simp only [Act.put, List.setIfInBounds_toArray, List.set_cons_zero, List.set_cons_succ, i64_w, i32_w]
    rfl
  refine one_ (i := 1) (N := some 28) #[true, true, true, true, false, false, false, false, false, false, false, false, false, false] rfl rfl (by kernel_rfl) (by decide) (fun K hK => ?_)
  refine goes_ Try.func15 (by kernel_rfl) rfl #[.pointer (some ⟨g, 0, none⟩)] (by rfl) rfl rfl (by simp only [List.map_toArray, List.map_cons, List.map_nil]; rfl) ?_
  with_reducible refine (HLen.out _ (HS.out.below (below_drew (Below.refl _ _)))).mono ?_
  rintro e w1 ⟨rfl, rfl⟩
  refine ⟨_, rfl, ?_⟩
  refine hK.out _ _ trivial (fun hHeld => ?_)
  clear hK K
  refine norm_ (a' := ?_) ?_ ?_
  rotate_left
  · show Act.put _ (some 28) _ = _
    simp only [Act.put, List.setIfInBounds_toArray, List.set_cons_zero, List.set_cons_succ, i64_w, i32_w]
    rfl
  refine pure_ (i := 4) (N := some 31) (v := ?_) (a' := ?_) #[true, true, true, true, true, false, false, false, false, false, false, false, false, false] rfl rfl (by kernel_rfl) (fun _ _ _ h => h) (Or.inl ⟨by rfl, ?_⟩) ?_ ?_
  rotate_left
  · intro w'
    go_simp
    with_reducible rfl
  rotate_left
  · simp only [Act.put, List.setIfInBounds_toArray, List.set_cons_zero, List.set_cons_succ, i64_w, i32_w]
    rfl
  refine pure_ (i := 5) (N := some 32) (v := ?_) (a' := ?_) #[true, true, true, true, true, true, false, false, false, false, false, false, false, false] rfl rfl (by kernel_rfl) (fun _ _ _ h => h) (Or.inl ⟨by rfl, ?_⟩) ?_ ?_
  rotate_left
  · intro w'
    go_simp
    with_reducible rfl
  rotate_left
  · simp only [Act.put, List.setIfInBounds_toArray, List.set_cons_zero, List.set_cons_succ, i64_w, i32_w]
    rfl
  refine pure_ (i := 6) (N := some 33) (v := ?_) (a' := ?_) #[true, true, true, true, true, true, true, false, false, false, false, false, false, false] rfl rfl (by kernel_rfl) (fun _ _ _ h => h) (Or.inl ⟨by rfl, ?_⟩) ?_ ?_
  rotate_left
  · intro w'
    go_simp
    with_reducible rfl
  rotate_left
  · simp only [Act.put, List.setIfInBounds_toArray, List.set_cons_zero, List.set_cons_succ, i64_w, i32_w]
    rfl
  refine pure_ (i := 9) (N := some 36) (v := ?_) (a' := ?_) #[true, true, true, true, true, true, true, false, false, true, false, false, false, false] rfl rfl (by kernel_rfl) (fun _ _ _ h => h) (Or.inl ⟨by rfl, ?_⟩) ?_ ?_
  rotate_left
  · intro w'
    go_simp
    with_reducible rfl
  rotate_left
  · simp only [Act.put, List.setIfInBounds_toArray, List.set_cons_zero, List.set_cons_succ, i64_w, i32_w]
    rfl
  refine one_ (i := 7) (N := some 34) #[true, true, true, true, true, true, true, true, false, true, false, false, false, false] rfl rfl (by kernel_rfl) (by decide) (fun K hK => ?_)
  refine goes_ Try.func18 (by kernel_rfl) rfl #[.pointer (some ⟨g, 0, none⟩)] (by rfl) rfl rfl (by simp only [List.map_toArray, List.map_cons, List.map_nil]; rfl) ?_
  with_reducible refine (HBy.out _ (HS.out.below (below_drew (Below.refl _ _)))).mono ?_
  rintro e w1 ⟨v1, rfl, ho, hb⟩
  refine ⟨_, rfl, ?_⟩
  obtain ⟨A8, c8, rfl, hc8, hC8⟩ := Kd.R_reads ho
  have HC8 := Aside0.mk hC8
  have HB1 := Aside0.mk (below_then (below_drew (Below.refl w.heap.size w)) (Nat.le_refl _) hb)
  clear ho hb hc8 hC8
  refine hK.out _ _ trivial (fun hHeld => ?_)
  clear hK K
  refine norm_ (a' := ?_) ?_ ?_
  rotate_left
  · show Act.put _ (some 34) _ = _
    simp only [Act.put, List.setIfInBounds_toArray, List.set_cons_zero, List.set_cons_succ, i64_w, i32_w]
    rfl
  refine more_ (S' := fun w' => (convert 43 9 (.slice A8 D.length c8)).run Try.prog w' = .ok (.string (strOfNums D)) w') (fun _ h => trivial) (Kd.C_string Try.underlying43 Try.underlying5 Try.underlying9 (c := c8) HC8.out) (fun hHeld => ?_)
  refine take_ (i := 8) (N := some 35) (v := ?_) (a' := ?_) #[true, true, true, true, true, true, true, true, true, true, false, false, false, false] rfl rfl (by kernel_rfl) (fun _ _ _ h => h) (Or.inl ⟨by rfl, ?_⟩) hHeld ?_ ?_
  rotate_left
  · intro w' s0
    go_simp
    with_reducible rfl
  rotate_left
  · simp only [Act.put, List.setIfInBounds_toArray, List.set_cons_zero, List.set_cons_succ, i64_w, i32_w]
    rfl
  refine one_ (i := 10) (N := some 37) #[true, true, true, true, true, true, true, true, true, true, true, false, false, false] rfl rfl (by kernel_rfl) (by decide) (fun K hK => ?_)
  refine goes_ Try.func28 (by kernel_rfl) rfl #[.slice A1 m c1] (by rfl) rfl rfl (by simp only [List.map_toArray, List.map_cons, List.map_nil]; rfl) ?_
  with_reducible refine (HRf.out _ (Kd.C_below HC1.out HB1.out)).mono ?_
  rintro e w2 ⟨v2, rfl, ho, hb⟩
  refine ⟨_, rfl, ?_⟩
  obtain ⟨A9, c9, rfl, hc9, hC9⟩ := Kd.R_reads ho
  have HB2 := Aside0.mk (below_then HB1.out HB1.out.size hb)
  have HC9 := Aside0.mk hC9
  have HC89 := Aside0.mk (Kd.C_below HC8.out hb)
  clear ho hb hc9 hC9
  refine hK.out _ _ (Kd.C_string Try.underlying43 Try.underlying5 Try.underlying9 (c := c8) HC89.out) (fun hHeld => ?_)
  clear hK K
  refine norm_ (a' := ?_) ?_ ?_
  rotate_left
  · show Act.put _ (some 37) _ = _
    simp only [Act.put, List.setIfInBounds_toArray, List.set_cons_zero, List.set_cons_succ, i64_w, i32_w]
    rfl
  refine more_ (S' := fun w' => (convert 43 9 (.slice A8 D.length c8)).run Try.prog w' = .ok (.string (strOfNums D)) w' ∧ (convert 43 9 (.slice A9 D.length c9)).run Try.prog w' = .ok (.string (strOfNums D)) w') (fun _ h => (h.1)) ⟨hHeld, Kd.C_string Try.underlying43 Try.underlying5 Try.underlying9 (c := c9) HC9.out⟩ (fun hHeld => ?_)
  refine take_ (i := 11) (N := some 38) (v := ?_) (a' := ?_) #[true, true, true, true, true, true, true, true, true, true, true, true, false, false] rfl rfl (by kernel_rfl) (fun _ _ _ h => h) (Or.inl ⟨by rfl, ?_⟩) hHeld ?_ ?_
  rotate_left
  · rintro w' ⟨s0, s1⟩
    go_simp
    with_reducible rfl
  rotate_left
  · simp only [Act.put, List.setIfInBounds_toArray, List.set_cons_zero, List.set_cons_succ, i64_w, i32_w]
    rfl
  refine pure_ (i := 12) (N := some 39) (v := ?_) (a' := ?_) #[true, true, true, true, true, true, true, true, true, true, true, true, true, false] rfl rfl (by kernel_rfl) (fun _ _ _ h => h) (Or.inl ⟨by rfl, ?_⟩) ?_ ?_
  rotate_left
  · intro w'
    go_simp
    with_reducible rfl
  rotate_left
  · simp only [Act.put, List.setIfInBounds_toArray, List.set_cons_zero, List.set_cons_succ, i64_w, i32_w]
    rfl
  refine pure_ (i := 13) (N := some 40) (v := ?_) (a' := ?_) #[true, true, true, true, true, true, true, true, true, true, true, true, true, true] rfl rfl (by kernel_rfl) (fun _ _ _ h => h) (Or.inl ⟨by rfl, ?_⟩) ?_ ?_
  rotate_left
  · intro w'
    go_simp
    with_reducible rfl
  rotate_left
  · simp only [Act.put, List.setIfInBounds_toArray, List.set_cons_zero, List.set_cons_succ, i64_w, i32_w]
    rfl
  refine done_ (by kernel_rfl) ?_
  clear hmm
  go_wp2_with fail
  go_loopw [9] (fun kv w' => ∃ k : Nat, k ≤ m ∧ kv = .int .i64 k ∧ Aside0 (Below w.heap.size w w')) (fun kv _ => m - (intOf kv).toNat)
  case atStart => exact ⟨0, Nat.zero_le _, rfl, HB2⟩
  case round =>
    obtain ⟨k, hk, rfl, HB⟩ := hrel
    by_cases hlt : k < m
    · have hki : (k : Int) < (m : Int) := by omega
      have hm4 := HLD.out
      have HS' := Aside0.mk (HS.out.below HB.out)
      obtain ⟨ad, e, hcell⟩ := HAt.out _ (Kd.C_below HC1.out HB.out) k hlt
      subst e
      have hh := HHas.out k hlt
      have hf := HFat.out k hlt
      have HT := Aside0.mk (HTx.out _ HS'.out k hlt)
      have HI := Aside0.mk (HId.out _ HS'.out (bs (l.getD k [])))
      rw [bs_data, hh, hf, if_pos rfl] at HI
      have HCell2 := Aside0.mk (fun w2 (h : Below w.heap.size w w2) => HAt.out w2 (Kd.C_below HC1.out h) k hlt)
      clear hh hf
      generalize bs (l.getD k []) = s at *
      go_wp2_with fail
      refine HT.out.mono ?_
      rintro e w4 ⟨rfl, rfl⟩
      go_wp2_with fail
      refine HI.out.mono ?_
      rintro e w4 ⟨rfl, hb⟩
      have HB4 := Aside0.mk (below_then HB.out HB.out.size hb)
      obtain ⟨ad', e, hcell'⟩ := HCell2.out _ HB4.out
      cases e
      clear hb HB hcell HCell2
      go_wp2_with fail
      go_roundw
      case rel => exact ⟨k + 1, by omega, by go_num, HB4⟩
      case measure => simp [intOf]; omega
    · have e : m = k := by omega
      subst e
      go_wp2_with fail
      clear hlt hk HB2
      go_loopw [14] (fun kv w' => ∃ k : Nat, k ≤ n2 ∧ kv = .int .i64 k ∧ Aside0 (Below w.heap.size w w')) (fun kv _ => n2 - (intOf kv).toNat)
      case atStart => exact ⟨0, Nat.zero_le _, rfl, HB⟩
      case round =>
        obtain ⟨k, hk, rfl, HB⟩ := hrel
        by_cases hlt : k < n2
        · have hki : (k : Int) < (n2 : Int) := by omega
          obtain ⟨ad2, e, hcell⟩ := at_text (Kd.C_below HC2.out HB.out) k hlt
          have HCell := Aside0.mk (fun w2 (h : Below w.heap.size w w2) => at_text (Kd.C_below HC2.out h) k hlt)
          subst e
          generalize asks.getD k [] = t at *
          have hh := HHd.out t
          by_cases hK : fromOf l t < m
          · have hKi : (fromOf l t : Int) < (m : Int) := by omega
            have HCl := Aside0.mk (fun w2 (h : Below w.heap.size w w2) => HAt.out w2 (Kd.C_below HC1.out h) _ hK)
            by_cases hq : l.getD (fromOf l t) [] = t
            · have hhas : has l t = true := by rw [hh]; exact decide_eq_true ⟨hK, hq⟩
              rw [hq] at HCl
              clear hh hq
              have H13 := Aside0.mk (HRF.out _ (Kd.C_below HC1.out HB.out) (bs t))
              have H14 := Aside0.mk (HRB.out _ (Kd.C_below HC1.out HB.out) (bs t))
              have H15 := Aside0.mk (HBe.out _ (HS.out.below HB.out) (bs t))
              have H16 := Aside0.mk (fun w2 (h : DictAt w2 g l) => HId.out w2 h (bs t))
              have H18 := Aside0.mk (fun w2 (h : DictAt w2 g l) => HFr.out w2 h (bs t))
              simp only [bs_data, hhas, if_true, if_false, Bool.false_eq_true] at H13 H14 H15 H16 H18
              clear hhas
              generalize fromOf l t = K at *
              generalize runOf l t = R at *
              generalize bs t = s at *
              go_wp2_with fail
              refine H13.out.mono ?_
              rintro e w4 ⟨rfl, rfl⟩
              go_wp2_with fail
              refine H14.out.mono ?_
              rintro e w4 ⟨rfl, rfl⟩
              go_wp2_with fail
              refine H15.out.mono ?_
              rintro e w4 ⟨rfl, hb⟩
              have HB4 := Aside0.mk (below_then HB.out HB.out.size hb)
              obtain ⟨ad', e, hcell'⟩ := HCell.out _ HB4.out
              cases e
              clear hb hcell HB H13 H14 H15
              go_wp2_with fail
              refine (H16.out _ (HS.out.below HB4.out)).mono ?_
              rintro e w5 ⟨rfl, hb⟩
              have HB5 := Aside0.mk (below_then HB4.out HB4.out.size hb)
              obtain ⟨ad', e, hcell⟩ := HCell.out _ HB5.out
              cases e
              clear hb hcell' HB4 H16 HCell
              obtain ⟨ad1, e, hcell1⟩ := HCl.out _ HB5.out
              subst e
              clear HCl
              go_wp2_with fail
              go_quiet (fail)
              clear hcell1
              go_wp2_with fail
              refine (H18.out _ (HS.out.below (below_drews HB5.out _))).mono ?_
              rintro e w6 ⟨rfl, hb⟩
              have HB6 := Aside0.mk (below_then (below_drews HB5.out _) (below_drews HB5.out _).size hb)
              clear hb hcell HB5 H18
              go_wp2_with fail
              go_roundw
              case rel => exact ⟨k + 1, by omega, by go_num, HB6⟩
              case measure => simp [intOf]; omega
            · have hhas : has l t = false := by rw [hh]; exact decide_eq_false (fun h => hq h.2)
              have hne : ((bs (l.getD (fromOf l t) [])).toList == (bs t).toList) = false := by
                rw [ByteArray.toList_eq, ByteArray.toList_eq, bs_data, bs_data, beq_eq_false_iff_ne]; exact hq
              clear hh hq
              generalize bs (l.getD (fromOf l t) []) = s1 at *
              have H13 := Aside0.mk (HRF.out _ (Kd.C_below HC1.out HB.out) (bs t))
              have H14 := Aside0.mk (HRB.out _ (Kd.C_below HC1.out HB.out) (bs t))
              have H15 := Aside0.mk (HBe.out _ (HS.out.below HB.out) (bs t))
              have H16 := Aside0.mk (fun w2 (h : DictAt w2 g l) => HId.out w2 h (bs t))
              have H18 := Aside0.mk (fun w2 (h : DictAt w2 g l) => HFr.out w2 h (bs t))
              simp only [bs_data, hhas, if_true, if_false, Bool.false_eq_true] at H13 H14 H15 H16 H18
              clear hhas
              generalize fromOf l t = K at *
              generalize runOf l t = R at *
              generalize bs t = s at *
              go_wp2_with fail
              refine H13.out.mono ?_
              rintro e w4 ⟨rfl, rfl⟩
              go_wp2_with fail
              refine H14.out.mono ?_
              rintro e w4 ⟨rfl, rfl⟩
              go_wp2_with fail
              refine H15.out.mono ?_
              rintro e w4 ⟨rfl, hb⟩
              have HB4 := Aside0.mk (below_then HB.out HB.out.size hb)
              obtain ⟨ad', e, hcell'⟩ := HCell.out _ HB4.out
              cases e
              clear hb hcell HB H13 H14 H15
              go_wp2_with fail
              refine (H16.out _ (HS.out.below HB4.out)).mono ?_
              rintro e w5 ⟨rfl, hb⟩
              have HB5 := Aside0.mk (below_then HB4.out HB4.out.size hb)
              obtain ⟨ad', e, hcell⟩ := HCell.out _ HB5.out
              cases e
              clear hb hcell' HB4 H16 HCell
              obtain ⟨ad1, e, hcell1⟩ := HCl.out _ HB5.out
              subst e
              clear HCl
              go_wp2_with fail
              go_quiet (fail)
              clear hcell1
              go_wp2_with fail
              refine (H18.out _ (HS.out.below (below_drews HB5.out _))).mono ?_
              rintro e w6 ⟨rfl, hb⟩
              have HB6 := Aside0.mk (below_then (below_drews HB5.out _) (below_drews HB5.out _).size hb)
              clear hb hcell HB5 H18
              go_wp2_with fail
              go_roundw
              case rel => exact ⟨k + 1, by omega, by go_num, HB6⟩
              case measure => simp [intOf]; omega
          · have hhas : has l t = false := by rw [hh]; exact decide_eq_false (fun h => hK h.1)
            have hKi : decide (fromOf l t < m) = false := decide_eq_false hK
            clear hh hK
            have H13 := Aside0.mk (HRF.out _ (Kd.C_below HC1.out HB.out) (bs t))
            have H14 := Aside0.mk (HRB.out _ (Kd.C_below HC1.out HB.out) (bs t))
            have H15 := Aside0.mk (HBe.out _ (HS.out.below HB.out) (bs t))
            have H16 := Aside0.mk (fun w2 (h : DictAt w2 g l) => HId.out w2 h (bs t))
            have H18 := Aside0.mk (fun w2 (h : DictAt w2 g l) => HFr.out w2 h (bs t))
            simp only [bs_data, hhas, if_true, if_false, Bool.false_eq_true] at H13 H14 H15 H16 H18
            clear hhas
            generalize fromOf l t = K at *
            generalize runOf l t = R at *
            generalize bs t = s at *
            go_wp2_with fail
            refine H13.out.mono ?_
            rintro e w4 ⟨rfl, rfl⟩
            go_wp2_with fail
            refine H14.out.mono ?_
            rintro e w4 ⟨rfl, rfl⟩
            go_wp2_with fail
            refine H15.out.mono ?_
            rintro e w4 ⟨rfl, hb⟩
            have HB4 := Aside0.mk (below_then HB.out HB.out.size hb)
            obtain ⟨ad', e, hcell'⟩ := HCell.out _ HB4.out
            cases e
            clear hb hcell HB H13 H14 H15
            go_wp2_with fail
            refine (H16.out _ (HS.out.below HB4.out)).mono ?_
            rintro e w5 ⟨rfl, hb⟩
            have HB5 := Aside0.mk (below_then HB4.out HB4.out.size hb)
            obtain ⟨ad', e, hcell⟩ := HCell.out _ HB5.out
            cases e
            clear hb hcell' HB4 H16 HCell
            go_wp2_with fail
            go_quiet (fail)
            go_wp2_with fail
            refine (H18.out _ (HS.out.below (below_drews HB5.out _))).mono ?_
            rintro e w6 ⟨rfl, hb⟩
            have HB6 := Aside0.mk (below_then (below_drews HB5.out _) (below_drews HB5.out _).size hb)
            clear hb hcell HB5 H18
            go_wp2_with fail
            go_roundw
            case rel => exact ⟨k + 1, by omega, by go_num, HB6⟩
            case measure => simp [intOf]; omega
        · have e : n2 = k := by omega
          subst e
          go_wp2_with fail
          clear hlt hk
          go_loopw [23] (fun kv w' => ∃ k : Nat, k ≤ n3 ∧ kv = .int .i64 k ∧ Aside0 (Below w.heap.size w w')) (fun kv _ => n3 - (intOf kv).toNat)
          case atStart => exact ⟨0, Nat.zero_le _, rfl, HB⟩
          case round =>
            obtain ⟨k, hk, rfl, HB⟩ := hrel
            by_cases hlt : k < n3
            · have hki : (k : Int) < (n3 : Int) := by omega
              obtain ⟨ad2, e, hcell⟩ := Kd.at_int (Kd.C_below HC3.out HB.out) k (by omega) (by omega)
              subst e
              simp only [Int.toNat_natCast, rd_nat] at hcell
              generalize ids.getD k 0 = v at *
              have hv : (0 ≤ v ∧ v < (m : Int)) ∨ v < 0 ∨ (0 ≤ v ∧ (m : Int) ≤ v) := by omega
              rcases hv with hv | hv | hv
              · obtain ⟨j, rfl⟩ := Int.eq_ofNat_of_zero_le hv.1
                have hj : j < m := by omega
                have hj0 : (0 : Int) ≤ (j : Int) := by omega
                have hji : (j : Int) < (m : Int) := by omega
                obtain ⟨ad1, e, hcell1⟩ := HAt.out _ (Kd.C_below HC1.out HB.out) j hj
                subst e
                have HT := Aside0.mk (HTx.out _ (HS.out.below HB.out) j hj)
                clear hv
                generalize bs (l.getD j []) = s at *
                go_wp2_with fail
                refine HT.out.mono ?_
                rintro e w4 ⟨rfl, rfl⟩
                go_wp2_with fail
                go_roundw
                case rel => exact ⟨k + 1, by omega, by go_num, HB⟩
                case measure => simp [intOf]; omega
              · have HT := Aside0.mk (HTn.out _ (HS.out.below HB.out) v (.inl hv))
                have hv0 : decide (0 ≤ v) = false := decide_eq_false (by omega)
                clear hv
                go_wp2_with fail
                refine HT.out.mono ?_
                rintro e w4 ⟨rfl, rfl⟩
                go_wp2_with fail
                go_roundw
                case rel => exact ⟨k + 1, by omega, by go_num, HB⟩
                case measure => simp [intOf]; omega
              · have HT := Aside0.mk (HTn.out _ (HS.out.below HB.out) v (.inr hv.2))
                have hv0 : decide (0 ≤ v) = true := decide_eq_true hv.1
                have hv1 : decide (v < (m : Int)) = false := decide_eq_false (by omega)
                clear hv
                go_wp2_with fail
                refine HT.out.mono ?_
                rintro e w4 ⟨rfl, rfl⟩
                go_wp2_with fail
                go_roundw
                case rel => exact ⟨k + 1, by omega, by go_num, HB⟩
                case measure => simp [intOf]; omega
            · have e : n3 = k := by omega
              subst e
              go_wp2_with fail
              go_ret
              exact ⟨rfl, HB.out⟩
end Go.Proofs.Ytomgfhapmhagnaa.Txt
