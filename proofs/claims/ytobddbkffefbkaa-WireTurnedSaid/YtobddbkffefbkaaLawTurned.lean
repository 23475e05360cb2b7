/-
  Proved: a frame of which up to 32 bits side by side are changed is refused, and one that isn't is its body, whatever the body, the place and the bits (the law WireTurned); no condition.
-/
import Derived.Test.YtobddbkffefbkaaRows
import Derived.Test.YtobddbkffefbkaaAwake
import Derived.Test.YtobddbkffefbkaaTurnLaw
import Derived.Test.YtobddbkffefbkaaOpen
import Derived.ShutString
import Derived.ChangeOld
namespace Go.Proofs.Ytobddbkffefbkaa.wireTurned
set_option linter.unusedVariables false
set_option linter.unusedSimpArgs false
open Go.RowKit Go.Proofs.YtobddbkffefbkaaW.PrintWords Go.Proofs.Ytobddbkffefbkaa.Lib Go.Proofs.Ytobddbkffefbkaa.Bas Go.Proofs.Ytobddbkffefbkaa.Turn
open Go.ChangeShapes Go.WideShapes Go.ChangeAt
open Go.ChangeMaps (open_string shut_string)

theorem own : ownKnob Try.prog.godebug = none := by kernel_rfl
theorem laidOut : laidOutB Try.prog = true := by kernel_rfl

set_option maxRecDepth 100000 in
set_option maxHeartbeats 400000 in
theorem walk_long (xs : List Int) (n c : Nat) (A : Option Addr) (pos m : Int) (w : World) (hr : Kd.C (Kd.int .u8) w A n xs) (h : 2000 < n) :
    Calls Try.prog 4 #[.slice A n c, .int .i64 pos, .int .u32 m] w fun e w' => e = .returned (.bool true) ∧ Below w.heap.size w w' := by
  have hm : n ≤ 9223372036854775807 := hr.2.1
  clear hr
  go_enter Try.func4, Try.ntmps4
  go_wp2_with fail
  refine (awake_calls w).mono ?_
  rintro e w1 ⟨rfl, hb1⟩
  have HB1 := Aside0.mk hb1
  clear hb1
  go_wp2_with fail
  go_ret
  exact ⟨rfl, HB1.out⟩

set_option maxRecDepth 100000 in
set_option maxHeartbeats 400000 in
theorem walk_short (xs : List Int) (n c : Nat) (A : Option Addr) (pos m : Int) (w : World) (hr : Kd.C (Kd.int .u8) w A n xs) (hb : Bytes xs) (h : n ≤ 2000)
    (hp0 : -9223372036854775808 ≤ pos) (hp1 : pos < 9223372036854775808) (hm0 : 0 ≤ m) (hm1 : m < 4294967296) :
    Calls Try.prog 4 #[.slice A n c, .int .i64 pos, .int .u32 m] w fun e w' => e = .returned (.bool true) ∧ Below w.heap.size w w' := by
  obtain rfl := hr.1
  have HR := Aside0.mk hr
  have HX := Aside0.mk hb
  clear hr hb
  go_enter Try.func4, Try.ntmps4
  go_wp2_with fail
  refine (awake_calls w).mono ?_
  rintro e w1 ⟨rfl, hb1⟩
  have HB1 := Aside0.mk hb1
  have HR1 := Aside0.mk (Kd.C_below HR.out hb1)
  clear hb1 HR
  go_wp2_with fail
  refine (frame_yes xs _ A c w1 HR1.out HX.out (by omega)).mono ?_
  rintro e w2 ⟨v2, rfl, ho, hb⟩
  have HB2 := Aside0.mk (below_then HB1.out HB1.out.size hb)
  have HR2 := Aside0.mk (Kd.C_below HR1.out hb)
  have HO2 := Aside0.mk (Kd.R_lower ho HB1.out.size)
  obtain ⟨A2, c2, rfl, hc2, hC2⟩ := Kd.R_reads ho
  rw [frame_length] at hC2 hc2 ⊢
  have HC2 := Aside0.mk hC2
  clear ho hb hC2 HB1 HR1
  go_wp2_with fail
  refine (unframe_calls (frame xs) _ A2 c2 w2 HC2.out (frame_bytes HX.out) (by rw [frame_length]; exact hc2)).mono ?_
  rintro e w3 ⟨v3, rfl, ho, hb⟩
  rw [frame_unframe xs (by omega)] at ho ⊢
  obtain ⟨A3, c3, rfl, hc3, hC3⟩ := Kd.R_reads ho
  have HB3 := Aside0.mk (below_then HB2.out HB2.out.size hb)
  have HO3 := Aside0.mk (Kd.R_below HO2.out hb)
  have hs1 := Kd.C_string Try.underlying22 Try.underlying5 Try.underlying9 (c := c3) hC3
  have hs2 := Kd.C_string Try.underlying22 Try.underlying5 Try.underlying9 (c := c) (Kd.C_below HR2.out hb)
  clear ho hb hC3 HB2 HR2 HO2 HC2
  generalize strOfNums xs = str at *
  by_cases hz : m = 0
  · subst hz
    go_wp2_with fail
    go_ret
    exact ⟨rfl, HB3.out⟩
  · have hz1 : (m == 0) = false := beq_eq_false_iff_ne.2 hz
    have hK : (0 : Int) < 8 * ((xs.length : Int) + 8) - 31 := by omega
    obtain ⟨mn, rfl⟩ := Int.eq_ofNat_of_zero_le hm0
    have hmn : mn < 4294967296 := by omega
    clear hm0 hm1
    have hzz := Aside0.mk (show mn ≠ 0 by omega)
    obtain ⟨g, rfl, hg0, -⟩ := R_plain HO3.out (by rw [frame_length]; omega)
    rw [frame_length] at HO3
    have HF := Aside0.mk (frame_length xs)
    have HBF := Aside0.mk (frame_bytes HX.out)
    by_cases hneg : pos < 0
    case pos =>
      obtain ⟨a, ha, hlt⟩ : ∃ a : Nat, -(pos + 1).tmod (8 * ((xs.length : Int) + 8) - 31) = (a : Int) ∧ a + 31 < 8 * (xs.length + 8) := by
        have h1 : (pos + 1).tmod (8 * ((xs.length : Int) + 8) - 31) = -((-(pos + 1)) % (8 * ((xs.length : Int) + 8) - 31)) := by
          have h2 := Int.neg_tmod (-(pos + 1)) (8 * ((xs.length : Int) + 8) - 31)
          rw [Int.neg_neg] at h2
          rw [h2, Int.tmod_eq_emod_of_nonneg (by omega)]
        have h2 := Int.emod_nonneg (-(pos + 1)) (show (8 * ((xs.length : Int) + 8) - 31) ≠ 0 by omega)
        have h3 := Int.emod_lt_of_pos (-(pos + 1)) hK
        refine ⟨((-(pos + 1)) % (8 * ((xs.length : Int) + 8) - 31)).toNat, ?_, ?_⟩
        · rw [h1]; omega
        · omega
      go_wp2_with fail
      go_loopw [12] (fun x w' => ∃ i : Nat, i ≤ 32 ∧ x = .int .i64 i ∧ Aside0 (Kd.R (Kd.int .u8) 5 w' w.heap.size (fun _ => True) (.slice (some ⟨g, 0, none⟩) (xs.length + 8) c2) (turned (frame xs) a mn i)) ∧ Aside0 (Below w.heap.size w w')) (fun x _ => 32 - (intOf x).toNat)
      case atStart => exact ⟨0, by omega, rfl, ⟨HO3.out⟩, ⟨HB3.out⟩⟩
      case round =>
        clear HO3 HB3 ha hz hz1 hs1 hs2 hneg hK hp0 hp1
        obtain ⟨i, hi, rfl, HO, HB⟩ := hrel
        by_cases hi32 : i < 32
        · have hTb := turned_bytes HBF.out a mn i
          have HS := Aside0.mk (show turned (frame xs) a mn (i + 1) = if mn / 2 ^ i % 2 = 1 then flip1 (turned (frame xs) a mn i) (a + i) else turned (frame xs) a mn i from rfl)
          generalize turned (frame xs) a mn i = L at *
          have hc1 := (R_at HO.out ((a + i) / 8) (by omega)).1
          have hf1 := (R_at HO.out ((a + i) / 8) (by omega)).2
          have hcb := hTb.getD ((a + i) / 8)
          have HFL := Aside0.mk (show flip1 L (a + i) = L.set ((a + i) / 8) (((L.getD ((a + i) / 8) 0).toNat ^^^ 2 ^ ((a + i) % 8) : Nat) : Int) from rfl)
          have hb1 := bit_test mn i hmn
          by_cases hbit : mn / 2 ^ i % 2 = 1
          · have hb2 : (bits .and .u32 ((mn : Int) / 2 ^ i) 1 == 1) = true := by rw [hb1, hbit]; rfl
            rw [if_pos hbit, HFL.out] at HS
            have HP := Aside0.mk (R_set_at HO.out ((a + i) / 8) (((L.getD ((a + i) / 8) 0).toNat ^^^ 2 ^ ((a + i) % 8) : Nat) : Int))
            generalize L.getD ((a + i) / 8) 0 = cc at *
            obtain ⟨cn, rfl⟩ := Int.eq_ofNat_of_zero_le hcb.1
            have hcn : cn < 256 := by omega
            rw [Int.toNat_natCast] at HS HP
            have hv := bit_flip cn (a + i) hcn
            generalize ((cn ^^^ 2 ^ ((a + i) % 8) : Nat) : Int) = fv at *
            clear hb1 hbit HFL hTb hcb
            have HB2 := Aside0.mk (below_set (j := (a + i) / 8) (v := .int .u8 fv) HB.out hg0)
            clear HB HO
            go_wp2_with fail
            go_roundw
            case rel => exact ⟨i + 1, by omega, by go_num, ⟨by rw [HS.out]; exact HP.out⟩, HB2⟩
            case measure => simp [intOf]; omega
          · have hb2 : (bits .and .u32 ((mn : Int) / 2 ^ i) 1 == 1) = false := by
              rw [hb1]
              apply beq_eq_false_iff_ne.2
              omega
            rw [if_neg hbit] at HS
            clear hb1 hbit HFL hTb hcb hc1 hf1
            go_wp2_with fail
            go_roundw
            case rel => exact ⟨i + 1, by omega, by go_num, ⟨by rw [HS.out]; exact HO.out⟩, HB⟩
            case measure => simp [intOf]; omega
        · have : i = 32 := by omega
          subst this
          have hTb := Aside0.mk (turned_bytes HBF.out a mn 32)
          have HZ := Aside0.mk (turned_refused xs HX.out (by omega) a mn hmn hzz.out (by omega))
          have HZ1 := Aside0.mk (unframe_code _ HZ.out)
          have HL := Aside0.mk (R_len HO.out)
          generalize turned (frame xs) a mn 32 = L at *
          go_wp2_with fail
          refine (unframe_calls L (xs.length + 8) (some ⟨g, 0, none⟩) c2 wr (R_C HO.out) hTb.out (by rw [← HL.out.1]; exact HL.out.2)).mono ?_
          rintro e w4 ⟨v4, rfl, ho, hb⟩
          rw [HZ1.out] at ho
          have HB4 := Aside0.mk (below_then HB.out HB.out.size hb)
          obtain ⟨A4, c4, rfl, -, -⟩ := Kd.R_reads ho
          have hnz : ((unframe L).2 != 0) = true := by rw [bne_iff_ne]; exact HZ.out
          clear ho hb
          generalize (unframe L).2 = code at *
          go_wp2_with fail
          go_ret
          exact ⟨rfl, HB4.out⟩
    case neg =>
      have hnn : 0 ≤ pos := by omega
      clear hneg
      have hneg := hnn
      clear hnn
      obtain ⟨a, ha, hlt⟩ : ∃ a : Nat, pos % (8 * ((xs.length : Int) + 8) - 31) = (a : Int) ∧ a + 31 < 8 * (xs.length + 8) := by
        have h2 := Int.emod_nonneg pos (show (8 * ((xs.length : Int) + 8) - 31) ≠ 0 by omega)
        have h3 := Int.emod_lt_of_pos pos hK
        exact ⟨(pos % (8 * ((xs.length : Int) + 8) - 31)).toNat, by omega, by omega⟩
      go_wp2_with fail
      try rw [ha]
      go_loopw [12] (fun x w' => ∃ i : Nat, i ≤ 32 ∧ x = .int .i64 i ∧ Aside0 (Kd.R (Kd.int .u8) 5 w' w.heap.size (fun _ => True) (.slice (some ⟨g, 0, none⟩) (xs.length + 8) c2) (turned (frame xs) a mn i)) ∧ Aside0 (Below w.heap.size w w')) (fun x _ => 32 - (intOf x).toNat)
      case atStart => exact ⟨0, by omega, rfl, ⟨HO3.out⟩, ⟨HB3.out⟩⟩
      case round =>
        clear HO3 HB3 ha hz hz1 hs1 hs2 hneg hK hp0 hp1
        obtain ⟨i, hi, rfl, HO, HB⟩ := hrel
        by_cases hi32 : i < 32
        · have hTb := turned_bytes HBF.out a mn i
          have HS := Aside0.mk (show turned (frame xs) a mn (i + 1) = if mn / 2 ^ i % 2 = 1 then flip1 (turned (frame xs) a mn i) (a + i) else turned (frame xs) a mn i from rfl)
          generalize turned (frame xs) a mn i = L at *
          have hc1 := (R_at HO.out ((a + i) / 8) (by omega)).1
          have hf1 := (R_at HO.out ((a + i) / 8) (by omega)).2
          have hcb := hTb.getD ((a + i) / 8)
          have HFL := Aside0.mk (show flip1 L (a + i) = L.set ((a + i) / 8) (((L.getD ((a + i) / 8) 0).toNat ^^^ 2 ^ ((a + i) % 8) : Nat) : Int) from rfl)
          have hb1 := bit_test mn i hmn
          by_cases hbit : mn / 2 ^ i % 2 = 1
          · have hb2 : (bits .and .u32 ((mn : Int) / 2 ^ i) 1 == 1) = true := by rw [hb1, hbit]; rfl
            rw [if_pos hbit, HFL.out] at HS
            have HP := Aside0.mk (R_set_at HO.out ((a + i) / 8) (((L.getD ((a + i) / 8) 0).toNat ^^^ 2 ^ ((a + i) % 8) : Nat) : Int))
            generalize L.getD ((a + i) / 8) 0 = cc at *
            obtain ⟨cn, rfl⟩ := Int.eq_ofNat_of_zero_le hcb.1
            have hcn : cn < 256 := by omega
            rw [Int.toNat_natCast] at HS HP
            have hv := bit_flip cn (a + i) hcn
            generalize ((cn ^^^ 2 ^ ((a + i) % 8) : Nat) : Int) = fv at *
            clear hb1 hbit HFL hTb hcb
            have HB2 := Aside0.mk (below_set (j := (a + i) / 8) (v := .int .u8 fv) HB.out hg0)
            clear HB HO
            go_wp2_with fail
            go_roundw
            case rel => exact ⟨i + 1, by omega, by go_num, ⟨by rw [HS.out]; exact HP.out⟩, HB2⟩
            case measure => simp [intOf]; omega
          · have hb2 : (bits .and .u32 ((mn : Int) / 2 ^ i) 1 == 1) = false := by
              rw [hb1]
              apply beq_eq_false_iff_ne.2
              omega
            rw [if_neg hbit] at HS
            clear hb1 hbit HFL hTb hcb hc1 hf1
            go_wp2_with fail
            go_roundw
            case rel => exact ⟨i + 1, by omega, by go_num, ⟨by rw [HS.out]; exact HO.out⟩, HB⟩
            case measure => simp [intOf]; omega
        · have : i = 32 := by omega
          subst this
          have hTb := Aside0.mk (turned_bytes HBF.out a mn 32)
          have HZ := Aside0.mk (turned_refused xs HX.out (by omega) a mn hmn hzz.out (by omega))
          have HZ1 := Aside0.mk (unframe_code _ HZ.out)
          have HL := Aside0.mk (R_len HO.out)
          generalize turned (frame xs) a mn 32 = L at *
          go_wp2_with fail
          refine (unframe_calls L (xs.length + 8) (some ⟨g, 0, none⟩) c2 wr (R_C HO.out) hTb.out (by rw [← HL.out.1]; exact HL.out.2)).mono ?_
          rintro e w4 ⟨v4, rfl, ho, hb⟩
          rw [HZ1.out] at ho
          have HB4 := Aside0.mk (below_then HB.out HB.out.size hb)
          obtain ⟨A4, c4, rfl, -, -⟩ := Kd.R_reads ho
          have hnz : ((unframe L).2 != 0) = true := by rw [bne_iff_ne]; exact HZ.out
          clear ho hb
          generalize (unframe L).2 = code at *
          go_wp2_with fail
          go_ret
          exact ⟨rfl, HB4.out⟩

theorem walk (xs : List Int) (n c : Nat) (A : Option Addr) (pos m : Int) (w : World) (hr : Kd.C (Kd.int .u8) w A n xs) (hb : Bytes xs)
    (hp : (Lit.int .i64 pos).wf = true) (hm : (Lit.int .u32 m).wf = true) :
    Calls Try.prog 4 #[.slice A n c, .int .i64 pos, .int .u32 m] w fun e w' => e = .returned (.bool true) ∧ Below w.heap.size w w' := by
  have h1 := bounds_i64 hp
  have h2 := bounds_u32 hm
  by_cases h : 2000 < n
  · exact walk_long xs n c A pos m w hr h
  · exact walk_short xs n c A pos m w hr hb (by omega) (by omega) (by omega) (by omega) (by omega)

set_option maxRecDepth 100000 in
theorem lifted (os : Os) (started : os.Started) (H : Type) (enc : TypeId × Value → H) :
    ReturnsInHanded {} Try.checked os 4 .any (Rows.wireTurnedSpec.pre6 enc Try.prog Try.f4 Rows.wireTurnedRow.domain false) (Rows.wireTurnedSpec.post enc Try.prog Try.f4 false true false false) := by
  refine returnsInHanded_of_change (C := Try.checked) own started (by kernel_rfl) Try.func4
    (ChangeSpec.witness6 (enc := enc) (C := Try.checked) false ⟨#[], #[.slice none 0 0, .int .i64 0, .int .u32 0], []⟩ 8 (by kernel_rfl) (by kernel_rfl) (by kernel_rfl) (by kernel_rfl)) ?_
  intro W base args ds gs before hval0 hW hcnd _
  have hval : ∀ (j : Nat) t v, Try.f4.params[j]? = some t → args[j]? = some v → Value.okWide Try.prog W .any base t v := hval0
  have hW' := hW
  obtain ⟨p, q, hA0, hV, rfl, hfz, hnd⟩ := hW
  have hA : DataW.TrodAll enc Try.prog W 0 (fun _ => true) true Try.f4.params.toList args.toList ds p := hA0
  rw [Try.params4] at hA hval
  obtain ⟨v0, vs0, d0, ds0, p0, q0, hargs, rfl, rfl, h0, r0⟩ := trodAll_cons hA
  obtain ⟨v1, vs1, d1, ds1, p1, q1, rfl, rfl, rfl, h1, r1⟩ := trodAll_cons r0
  obtain ⟨v2, vs2, d2, ds2, p2, q2, rfl, rfl, rfl, h2, r2⟩ := trodAll_cons r1
  obtain ⟨rfl, rfl, rfl⟩ := trodAll_nil r2
  obtain rfl : args = #[v0, v1, v2] := by cases args; simp_all
  obtain ⟨rfl, rfl⟩ := trodVars_none hV
  have k0 := h0
  have lt0 : ∀ x ∈ p0, x.block < W.heap.size := by obtain ⟨m, hm⟩ := k0; exact DataW.trod_lt m _ _ _ hm
  obtain ⟨a0, len0, cap0, rfl⟩ := okWide_slice Try.underlying22 (hval 0 22 v0 rfl rfl)
  obtain ⟨xs0, hl0, hC0, hb0⟩ := open_bytes Try.underlying22 Try.underlying5 (by kernel_rfl) h0
  have k1 := h1
  have lt1 : ∀ x ∈ p1, x.block < W.heap.size := by obtain ⟨m, hm⟩ := k1; exact DataW.trod_lt m _ _ _ hm
  obtain ⟨a1, rfl, _, _, w1⟩ := open_int Try.underlying3 (hval 1 3 v1 rfl rfl) h1
  have k2 := h2
  have lt2 : ∀ x ∈ p2, x.block < W.heap.size := by obtain ⟨m, hm⟩ := k2; exact DataW.trod_lt m _ _ _ hm
  obtain ⟨a2, rfl, _, _, w2⟩ := open_int Try.underlying24 (hval 2 24 v2 rfl rfl) h2
  clear hA0 hval0
  refine (walk xs0 len0 cap0 a0 a1 a2 W hC0 hb0 w1 w2).mono fun e W' ⟨he, bel⟩ => ?_
  subst he
  exact ⟨_, rfl, _, _, _, [], _, [], hW', trodAll_mk1 (shut_bool Try.underlying4 _), (trodAll_cons_mk (Below.trod laidOut (by kernel_rfl) (of_decide_eq_true (by kernel_rfl)) k0 bel lt0) (trodAll_cons_mk (Below.trod laidOut (by kernel_rfl) (of_decide_eq_true (by kernel_rfl)) k1 bel lt1) (trodAll_cons_mk (Below.trod laidOut (by kernel_rfl) (of_decide_eq_true (by kernel_rfl)) k2 bel lt2) trodAll_mk0))), rfl, bel.frame _, fun h => by cases h⟩

/-- The law. -/
theorem proved : Rows.WireTurnedSaid :=
  OpenClaim.holds_of_wide 4 Try.f4 rfl rfl rfl rfl rfl rfl rfl ⟨rfl, rfl, rfl, rfl, rfl⟩ rfl rfl rfl rfl rfl (by kernel_rfl) Try.func4 (by kernel_rfl)
    (of_decide_eq_true (by kernel_rfl)) (by unfold Func.isWrapper; first | (rw [if_pos (by decide +kernel)]; kernel_rfl) | (rw [if_neg (by decide +kernel)]; exact ⟨rfl, rfl⟩))
    (fun os started H enc _ => lifted os started H enc)
#print axioms proved
end Go.Proofs.Ytobddbkffefbkaa.wireTurned
