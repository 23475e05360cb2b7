/- Chapter 02's statements: abs, rows, made: what they answer. -/
import Derived.Test.YtcgfheagbaafoaaDoorAndOr
namespace Go.Proofs.YtcgfheagbaafoaaDoor.Sets
set_option linter.unusedVariables false
set_option linter.unusedSimpArgs false
open Go.RowKit Go.Proofs.YtcgfheagbaafoaaDoorW.PrintWords Go.Proofs.YtcgfheagbaafoaaDoorW.PrintLast Go.Proofs.YtcgfheagbaafoaaDoorW.PrintMore Go.Proofs.YtcgfheagbaafoaaDoor.Lib Go.Proofs.YtcgfheagbaafoaaDoor.Pack Go.Proofs.YtcgfheagbaafoaaDoor.PackA

def absOf (n : Int) : Nat := if n < 0 then (-(n + 1)).toNat else n.toNat
theorem absOf_lt {n : Int} (h0 : -9223372036854775808 ≤ n) (h1 : n ≤ 9223372036854775807) : absOf n < 9223372036854775808 := by unfold absOf; split <;> omega
set_option maxRecDepth 100000 in
set_option maxHeartbeats 400000 in
theorem abs_calls (n : Int) (w : World) (h0 : -9223372036854775808 ≤ n) (h1 : n ≤ 9223372036854775807) :
    Calls Tryd.prog 19 #[.int .i64 n] w fun e w' => e = .returned (.int .i64 (absOf n : Nat)) ∧ w = w' := by
  by_cases h : n < 0
  · have HA := Aside0.mk (show ((absOf n : Nat) : Int) = -(n + 1) by unfold absOf; rw [if_pos h]; omega)
    go_enter Tryd.func19, Tryd.ntmps19
    go_wp2
    go_ret
    exact ⟨by rw [HA.out]; rfl, rfl⟩
  · have HA := Aside0.mk (show ((absOf n : Nat) : Int) = n by unfold absOf; rw [if_neg h]; omega)
    go_enter Tryd.func19, Tryd.ntmps19
    go_wp2
    go_ret
    exact ⟨by rw [HA.out]; rfl, rfl⟩
set_option maxRecDepth 100000 in
set_option maxHeartbeats 400000 in
theorem rows_calls (n : Int) (w : World) (h0 : -9223372036854775808 ≤ n) (h1 : n ≤ 9223372036854775807) :
    Calls Tryd.prog 8 #[.int .i64 n] w fun e w' => e = .returned (.int .i64 (absOf n % 300 : Nat)) ∧ w = w' := by
  have HA := Aside0.mk (abs_calls n w h0 h1)
  have hab := absOf_lt h0 h1
  generalize absOf n = am at *
  have hmod : (am : Int).tmod 300 = ((am % 300 : Nat) : Int) := by rw [Int.tmod_eq_emod_of_nonneg (by omega)]; omega
  generalize am % 300 = r at *
  go_enter Tryd.func8, Tryd.ntmps8
  go_wp2_with fail
  refine HA.out.mono ?_
  rintro e w2 ⟨rfl, rfl⟩
  go_wp2_with fail
  go_ret
  exact ⟨rfl, rfl⟩

theorem R_atb {e : Nat} {w : World} {base : Nat} {ok : Nat → Prop} {g n c : Nat} {xs : List Bool} (h : Kd.bool.R e w base ok (.slice (some ⟨g, 0, none⟩) n c) xs) (j : Nat) (hj : j < n) :
    w.cell? ⟨g, j, none⟩ = some (.bool (xs.getD j false)) ∧ w.frozen? ⟨g, j, none⟩ = false := by
  have := Kd.R_celln (enc := Value.bool) (h1 := fun _ => rfl) false h (j : Int) (by omega) (by omega)
  rw [Int.toNat_natCast] at this
  exact this
theorem R_setb {e : Nat} {w : World} {base : Nat} {ok : Nat → Prop} {g n c : Nat} {xs : List Bool} (h : Kd.bool.R e w base ok (.slice (some ⟨g, 0, none⟩) n c) xs) (j : Nat) (v : Bool) :
    Kd.bool.R e (w.setCell ⟨g, j, none⟩ (.bool v)) base ok (.slice (some ⟨g, 0, none⟩) n c) (xs.set j v) := by
  have := Kd.R_putn (enc := Value.bool) (h1 := fun _ => rfl) h (j : Int) v
  rw [Int.toNat_natCast] at this
  exact this
def boolsF (f : Nat → Bool) (n : Nat) : List Bool := (List.range n).map f
theorem boolsF_length (f : Nat → Bool) (n : Nat) : (boolsF f n).length = n := by simp [boolsF]
theorem boolsF_get (f : Nat → Bool) (n i : Nat) (h : i < n) : (boolsF f n).getD i false = f i := by
  rw [List.getD_eq_getElem?_getD, List.getElem?_eq_getElem (by rw [boolsF_length]; exact h)]
  simp [boolsF]
theorem boolsF_congr {f g : Nat → Bool} {n : Nat} (h : ∀ i, i < n → f i = g i) : boolsF f n = boolsF g n := by
  unfold boolsF; exact List.map_congr_left (fun i hi => h i (List.mem_range.1 hi))
theorem boolsF_set (f : Nat → Bool) (n r : Nat) (h : r < n) : (boolsF f n).set r true = boolsF (fun i => f i || i == r) n := by
  apply List.ext_getElem
  · simp [boolsF]
  · intro k h1 h2
    simp only [boolsF, List.getElem_set, List.getElem_map, List.getElem_range]
    by_cases hk : r = k
    · subst hk; simp
    · have : (k == r) = false := by rw [beq_eq_false_iff_ne]; omega
      simp [hk, this]
theorem boolsF_none (n : Nat) : List.replicate n false = boolsF (fun _ => false) n := by
  apply List.ext_getElem
  · simp [boolsF]
  · intro k h1 h2; simp [boolsF]
/-- which rows are among so many numbers -/
def inP (l : List Int) (i : Nat) : Bool := decide ((i : Int) ∈ l)
theorem inP_nil : inP [] = fun _ => false := by funext i; simp [inP]
theorem inP_in (l : List Int) (r : Nat) : inP (l ++ [(r : Int)]) = fun i => inP l i || i == r := by
  funext i
  rw [Bool.eq_iff_iff]
  simp only [inP, decide_eq_true_iff, List.mem_append, List.mem_singleton, Bool.or_eq_true, beq_iff_eq, Int.natCast_inj]
theorem inP_out (l : List Int) (x : Int) (n : Nat) (h : x < 0 ∨ (n : Int) ≤ x) (i : Nat) (hi : i < n) : inP (l ++ [x]) i = inP l i := by
  rw [Bool.eq_iff_iff]
  simp only [inP, decide_eq_true_iff, List.mem_append, List.mem_singleton]
  constructor
  · rintro (h1 | h1)
    · exact h1
    · omega
  · exact Or.inl

theorem SetAt.far {w : World} {base g rows : Nat} {ws : List Int} {v0 : Value} (h : SetAt w base g rows ws) (hc : w.cell? ⟨g, 1, none⟩ = some v0) {p : Addr} (hg : g ≠ p.block) (hv : ∀ k, v0.ownBlock = some k → k ≠ p.block) (u : Value) :
    SetAt (w.setCell p u) base g rows ws ∧ (w.setCell p u).cell? ⟨g, 1, none⟩ = some v0 := by
  obtain ⟨h1, h2, h3, h4, v, h5, h6⟩ := h
  have e : v = v0 := by
    rw [cell_of_row w g 1 _ _ _ h5] at hc
    simpa using hc
  subst e
  refine ⟨⟨h1, h2, h3, h4, v, blk_far h5 hg u, Kd.R_of_own (own_setCell (Kd.own_of_R h6) (fun e => hv _ e.symm rfl) u) h6.1⟩, ?_⟩
  rw [cell_of_row (w.setCell p u) g 1 _ _ _ (blk_far h5 hg u)]; rfl

theorem infob : (Tryd.prog.info? 4).map (fun i => (i.zero, i.size, i.bytes)) = some (some (.bool false), 1, 1) := by kernel_rfl

set_option maxRecDepth 100000 in
set_option maxHeartbeats 1600000 in
theorem madel_calls (n : Nat) (l : List Int) (A : Option Addr) (m c : Nat) (w : World) (hn : n ≤ 1000) (hC : Kd.C (Kd.int .i64) w A m l) (hl : ∀ x ∈ l, -9223372036854775808 ≤ x ∧ x ≤ 9223372036854775807) :
    Calls Tryd.prog 9 #[.int .i64 n, .slice A m c] w fun e w' => ∃ g v, e = .returned (.tuple #[.pointer (some ⟨g, 0, none⟩), v, .bool true]) ∧ FSet w' w.heap.size g n (inP l) ∧ Kd.bool.R 4 w' w.heap.size (fun _ => True) v (boolsF (inP l) n) ∧ Below w.heap.size w w' := by
  have HC := Aside0.mk hC
  have HL := Aside0.mk hl
  have HLen := Aside0.mk (show l.length = m from hC.1)
  have hm := hC.2.1
  clear hC hl
  go_enter Tryd.func9, Tryd.ntmps9
  go_wp2_with fail
  refine (new_calls n w (by omega)).mono ?_
  rintro e w1 ⟨g, rfl, hs, hb⟩
  obtain ⟨v0, hv0, hv0b⟩ : ∃ v0, w1.cell? ⟨g, 1, none⟩ = some v0 ∧ (∀ k, v0.ownBlock = some k → k < w1.heap.size) := by
    obtain ⟨_, _, _, _, v, h5, h6⟩ := hs
    exact ⟨v, by rw [cell_of_row w1 g 1 _ _ _ h5]; rfl, Kd.R_lt h6⟩
  rw [wordsF_none] at hs
  have HS1 := Aside0.mk (show FSet w1 w.heap.size g n (fun _ => false) from hs)
  have HB1 := Aside0.mk hb
  have HGl := Aside0.mk (show g < w1.heap.size by obtain ⟨_, _, _, _, _, h5, _⟩ := hs; exact blk_lt h5)
  have HV0 := Aside0.mk hv0
  have HV0b := Aside0.mk hv0b
  clear hs hb hv0 hv0b
  go_wp2_with (first
    | ((with_reducible refine gate_dst (N := 25) rfl ?_); refine Kd.R_make Kd.bool (w0 := w1) w1.heap.size 4 rfl (N := 25) rfl 26 _ _ rfl (n : Int) rfl rfl Tryd.underlying26 (.bool false) 1 infob rfl (by decide) (by decide) false (ok := fun _ => True) (okp := fun _ => True) ?hz (fun _ h => h) trivial (by omega) (by omega) (Below.refl _ _) (Nat.le_refl _) ?_; (case hz => rfl); intro v6 w6 ho6 hb6 hg6 ha6; rw [Int.toNat_natCast] at ho6; obtain ⟨A6, c6, rfl, hc6, hC6⟩ := Kd.R_reads ho6; rw [List.length_replicate, boolsF_none] at ho6; rw [List.length_replicate] at hc6 ⊢; have HO6 := Aside0.mk ho6; have HB6 := Aside0.mk hb6; clear ho6 hb6 hg6 ha6 hC6)
    | fail)
  go_loopw [10] (fun kv w' => ∃ k : Nat, k ≤ m ∧ kv = .int .i64 k ∧ Aside0 (FSet w' w.heap.size g n (inP (l.take k))) ∧ Aside0 (w'.cell? ⟨g, 1, none⟩ = some v0) ∧ Aside0 (Kd.bool.R 4 w' w1.heap.size (fun _ => True) (.slice A6 n c6) (boolsF (inP (l.take k)) n)) ∧ Aside0 (Below w.heap.size w w')) (fun kv _ => m - (intOf kv).toNat)
  case atStart =>
    refine ⟨0, Nat.zero_le _, rfl, ⟨?_⟩, ⟨pw_cell_below HB6.out HV0.out⟩, ⟨?_⟩, ⟨below_then HB1.out HB1.out.size HB6.out⟩⟩
    · rw [List.take_zero, inP_nil]; exact HS1.out.below HB6.out
    · rw [List.take_zero, inP_nil]; exact HO6.out
  case round =>
    obtain ⟨k, hk, rfl, HS, HV, HO, HB⟩ := hrel
    by_cases hlt : k < m
    · have HCw := Aside0.mk (Kd.C_below HC.out HB.out)
      obtain ⟨ad, e, hcell⟩ := Kd.at_int HCw.out k (by omega) (by omega)
      subst e
      simp only [Int.toNat_natCast, rd_nat] at hcell
      have HCell : Aside0 (∀ w', Below w.heap.size w w' → w'.cell? (ad.add k) = some (.int .i64 (l.getD k 0))) := ⟨fun w' hb => by
        obtain ⟨ad', e, h⟩ := Kd.at_int (Kd.C_below HC.out hb) k (by omega) (by omega)
        cases e
        simpa only [Int.toNat_natCast, rd_nat] using h⟩
      have hz := HL.out (l.getD k 0) (by rw [List.getD_eq_getElem?_getD, List.getElem?_eq_getElem (by have := HLen.out; omega)]; exact List.getElem_mem _)
      have HT := Aside0.mk (take_snoc l k (by have := HLen.out; omega))
      generalize l.getD k 0 = z at *
      by_cases hin : z < 0 ∨ (n : Int) ≤ z
      · have HS2 : Aside0 (FSet wr w.heap.size g n (inP (l.take (k + 1)))) := ⟨by
          have h := HS.out
          unfold FSet at h ⊢
          rw [HT.out, wordsF_congr (fun i hi => inP_out (l.take k) z n hin i hi)]
          exact h⟩
        have HO2 : Aside0 (boolsF (inP (l.take (k + 1))) n = boolsF (inP (l.take k)) n) := ⟨by
          rw [HT.out]; exact boolsF_congr (fun i hi => inP_out (l.take k) z n hin i hi)⟩
        go_wp2_with fail
        refine (put_no wr _ g n _ z HS.out hin).mono ?_
        rintro e w2 ⟨rfl, rfl⟩
        by_cases h0 : z < 0
        · clear hin
          go_wp2_with fail
          go_roundw
          case rel => exact ⟨k + 1, by omega, by go_num, HS2, HV, ⟨by rw [HO2.out]; exact HO.out⟩, HB⟩
          case measure => simp [intOf]; omega
        · have h1 : (n : Int) ≤ z := by omega
          clear hin
          go_wp2_with fail
          go_roundw
          case rel => exact ⟨k + 1, by omega, by go_num, HS2, HV, ⟨by rw [HO2.out]; exact HO.out⟩, HB⟩
          case measure => simp [intOf]; omega
      · obtain ⟨r, rfl⟩ := Int.eq_ofNat_of_zero_le (show 0 ≤ z by omega)
        have hrn : r < n := by omega
        have hrn1 : (r : Int) < (n : Int) := by omega
        clear hin hz
        have HS2 := Aside0.mk (putrow_is (inP (l.take k)) n r hrn)
        have HI := Aside0.mk (inP_in (l.take k) r)
        have HO2 := Aside0.mk (boolsF_set (inP (l.take k)) n r hrn)
        go_wp2_with fail
        refine (put_far wr _ g n _ r HS.out hrn).mono ?_
        rintro e w2 ⟨rfl, hs, hb, gw, q, x, cw, hcw, hw2⟩
        obtain ⟨g6, rfl, hg6, -⟩ := R_plain HO.out (by omega)
        have hne : g6 ≠ gw := by
          rw [HV.out] at hcw
          injection hcw with e1
          have h1 := HV0b.out gw (by rw [e1]; rfl)
          have h2 := hg6
          omega
        have HO3 : Aside0 (Kd.bool.R 4 w2 w1.heap.size (fun _ => True) (.slice (some ⟨g6, 0, none⟩) n c6) (boolsF (inP (l.take k)) n)) := ⟨by
          rw [hw2]
          exact Kd.R_drew (Kd.R_mono (Kd.R_far (Kd.R_mono (Kd.R_bound HO.out) (ok' := fun k => w1.heap.size ≤ k) (fun _ hk => hk.2.1)) (fun j hj => by
            rw [HV.out] at hcw
            injection hcw with e1
            have h1 := HV0b.out gw (by rw [e1]; rfl)
            show j ≠ gw
            omega) _) (fun _ _ => trivial))⟩
        have HV3 : Aside0 (w2.cell? ⟨g, 1, none⟩ = some v0) := ⟨by
          obtain ⟨_, _, _, _, v, h5, _⟩ := hs
          have h5' := HS.out
          obtain ⟨_, _, _, _, v', h6, hr6⟩ := h5'
          have e6 : wr.cell? ⟨g, 1, none⟩ = some v' := by rw [cell_of_row wr g 1 _ _ _ h6]; rfl
          rw [HV.out] at e6
          injection e6 with e6
          have hgw : gw ≠ g := by
            rw [HV.out] at hcw
            injection hcw with e1
            rw [e6] at e1
            exact hr6.1 gw (by rw [e1]; rfl)
          rw [hw2, cell_of_row (wr.setCell ⟨gw, q, none⟩ x).drew g 1 _ _ _ (blk_drew (blk_far h6 (fun e => hgw e.symm) x)), e6]; rfl⟩
        have HS3 : Aside0 (FSet w2 w.heap.size g n (inP (l.take (k + 1)))) := ⟨by
          unfold FSet
          rw [HT.out, HI.out, ← HS2.out]; exact hs⟩
        have HB3 := Aside0.mk (HB.out.trans hb)
        have hcell3 := HCell.out _ HB3.out
        clear hs hb hw2 hcw hcell
        obtain ⟨hc6', hf6⟩ := R_atb HO3.out r hrn
        have HP := Aside0.mk (R_setb HO3.out r true)
        rw [HO2.out] at HP
        generalize (boolsF (inP (l.take k)) n).getD r false = old at *
        go_wp2_with fail
        go_roundw
        case rel => exact ⟨k + 1, by omega, by go_num, ⟨(SetAt.far HS3.out HV3.out (p := ⟨g6, r, none⟩) (by have := HGl.out; show g ≠ g6; omega) (fun k hk => by have := HV0b.out k hk; show k ≠ g6; omega) _).1⟩, ⟨(SetAt.far HS3.out HV3.out (p := ⟨g6, r, none⟩) (by have := HGl.out; show g ≠ g6; omega) (fun k hk => by have := HV0b.out k hk; show k ≠ g6; omega) _).2⟩, ⟨by rw [HT.out, HI.out]; exact HP.out⟩, ⟨below_set HB3.out (Nat.le_trans HB1.out.size hg6)⟩⟩
        case measure => simp [intOf]; omega
    · obtain rfl : k = m := by omega
      have HT := Aside0.mk (show l.take k = l by rw [← HLen.out, List.take_length])
      rw [HT.out] at HS HO
      go_wp2_with fail
      go_ret3
      exact ⟨g, _, rfl, HS.out, Kd.R_lower HO.out HB1.out.size, HB.out⟩
theorem bytesf_calls (w : World) (base g rows : Nat) (f : Nat → Bool) (hs : FSet w base g rows f) :
    Calls Tryd.prog 23 #[.pointer (some ⟨g, 0, none⟩)] w fun e w' => ∃ v, e = .returned v ∧ Kd.R (Kd.int .u8) 5 w' w.heap.size (fun _ => True) v (bytesF f rows) ∧ Below w.heap.size w w' :=
  (bytes_calls w base g rows _ hs).mono fun e w' h => by rw [byts_is] at h; exact h
theorem countf_calls (w : World) (base g rows : Nat) (f : Nat → Bool) (z : Int) (hz : ((cnt f rows : Nat) : Int) = z) (hs : FSet w base g rows f) :
    Calls Tryd.prog 12 #[.pointer (some ⟨g, 0, none⟩)] w fun e w' => e = .returned (.int .i64 z) ∧ w = w' :=
  (count_calls w base g rows _ hs).mono fun e w' h => ⟨by rw [h.1, count_is, hz], h.2⟩
end Go.Proofs.YtcgfheagbaafoaaDoor.Sets
