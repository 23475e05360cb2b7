/- A set's count and bytes. -/
import Derived.Test.YtcgfheagbaafoaaDoorSet
import Derived.Test.YtcgfheagbaafoaaDoorPop
namespace Go.Proofs.YtcgfheagbaafoaaDoor.Sets
set_option linter.unusedVariables false
set_option linter.unusedSimpArgs false
open Go.RowKit Go.Proofs.YtcgfheagbaafoaaDoorW.PrintWords Go.Proofs.YtcgfheagbaafoaaDoorW.PrintLast Go.Proofs.YtcgfheagbaafoaaDoorW.PrintMore Go.Proofs.YtcgfheagbaafoaaDoor.Lib Go.Proofs.YtcgfheagbaafoaaDoor.Pack Go.Proofs.YtcgfheagbaafoaaDoor.PackA

theorem and64 (a b : Nat) (ha : a < 18446744073709551616) (hb : b < 18446744073709551616) : bits .and .u64 (a : Int) (b : Int) = ((a &&& b : Nat) : Int) :=
  (bits_nat .u64 64 (by decide) wraps_u64 a b (by omega) (by omega)).1
theorem wrapu (a : Nat) (h : a < 18446744073709551616) : IntKind.u64.wrap (a : Int) = (a : Int) := wraps_u64 _ (by omega) (by omega)
theorem and127 (a : Nat) (h : a < 9223372036854775808) : bits .and .i64 (a : Int) 127 = ((a % 128 : Nat) : Int) := by
  have h := bits_mask .i64 63 (by decide) wraps_i64 7 (by decide) a (by omega) (by omega)
  have e : (2 : Int) ^ 7 - 1 = 127 := by decide
  rw [e] at h
  rw [h]; omega
theorem and_le (a b : Nat) : a &&& b ≤ b := Nat.and_le_right
set_option maxRecDepth 100000 in
set_option maxHeartbeats 400000 in
theorem ones_calls (x : Nat) (w : World) (h : x < 18446744073709551616) :
    Calls Tryd.prog 31 #[.int .u64 x] w fun e w' => e = .returned (.int .i64 (Lib.onesCount x : Nat)) ∧ w = w' := by
  have HP := Pop.pop_word x
  simp only at HP
  have A1 := and64 (x / 2) 6148914691236517205 (by omega) (by decide)
  have A2 := and64 x 6148914691236517205 h (by decide)
  have l1 := and_le (x / 2) 6148914691236517205
  have l2 := and_le x 6148914691236517205
  obtain ⟨a1, ha1⟩ : ∃ a1, (x / 2 &&& 6148914691236517205) = a1 := ⟨_, rfl⟩
  obtain ⟨a2, ha2⟩ : ∃ a2, (x &&& 6148914691236517205) = a2 := ⟨_, rfl⟩
  rw [ha1] at HP A1 l1
  rw [ha2] at HP A2 l2
  clear ha1 ha2
  replace A1 : bits .and .u64 ((x : Int) / 2) 6148914691236517205 = (a1 : Int) := A1
  replace A2 : bits .and .u64 (x : Int) 6148914691236517205 = (a2 : Int) := A2
  obtain ⟨x1, hx1⟩ : ∃ x1, a1 + a2 = x1 := ⟨_, rfl⟩
  have W1 : IntKind.u64.wrap ((a1 : Int) + (a2 : Int)) = (x1 : Int) := by rw [← hx1, ← Int.natCast_add]; exact wrapu _ (by omega)
  rw [hx1] at HP
  have A3 := and64 (x1 / 4) 3689348814741910323 (by omega) (by decide)
  have A4 := and64 x1 3689348814741910323 (by omega) (by decide)
  have l3 := and_le (x1 / 4) 3689348814741910323
  have l4 := and_le x1 3689348814741910323
  obtain ⟨a3, ha3⟩ : ∃ a3, (x1 / 4 &&& 3689348814741910323) = a3 := ⟨_, rfl⟩
  obtain ⟨a4, ha4⟩ : ∃ a4, (x1 &&& 3689348814741910323) = a4 := ⟨_, rfl⟩
  rw [ha3] at HP A3 l3
  rw [ha4] at HP A4 l4
  clear ha3 ha4
  replace A3 : bits .and .u64 ((x1 : Int) / 4) 3689348814741910323 = (a3 : Int) := A3
  replace A4 : bits .and .u64 (x1 : Int) 3689348814741910323 = (a4 : Int) := A4
  obtain ⟨x2, hx2⟩ : ∃ x2, a3 + a4 = x2 := ⟨_, rfl⟩
  have W2 : IntKind.u64.wrap ((a3 : Int) + (a4 : Int)) = (x2 : Int) := by rw [← hx2, ← Int.natCast_add]; exact wrapu _ (by omega)
  rw [hx2] at HP
  have hx2l : x2 ≤ 7378697629483820646 := by omega
  obtain ⟨y, hy⟩ : ∃ y, x2 / 16 + x2 = y := ⟨_, rfl⟩
  have W3 : IntKind.u64.wrap ((x2 : Int) / 16 + (x2 : Int)) = (y : Int) := by
    rw [show (x2 : Int) / 16 + (x2 : Int) = (y : Int) by omega]; exact wrapu _ (by omega)
  rw [hy] at HP
  have A5 := and64 y 1085102592571150095 (by omega) (by decide)
  obtain ⟨z, hz⟩ : ∃ z, (y &&& 1085102592571150095) = z := ⟨_, rfl⟩
  rw [hz] at HP A5
  replace A5 : bits .and .u64 (y : Int) 1085102592571150095 = (z : Int) := A5
  have hzl := HP.1
  have HE := HP.2
  clear HP hx1 hx2 l1 l2 l3 l4 hy hz hx2l
  obtain ⟨x4, hx4⟩ : ∃ x4, z + z / 256 = x4 := ⟨_, rfl⟩
  have W4 : IntKind.u64.wrap ((z : Int) + (z : Int) / 256) = (x4 : Int) := by
    rw [show (z : Int) + (z : Int) / 256 = (x4 : Int) by omega]; exact wrapu _ (by omega)
  rw [hx4] at HE
  have hx4l : x4 < 1302034566506450946 := by omega
  clear hx4 hzl
  obtain ⟨x5, hx5⟩ : ∃ x5, x4 + x4 / 65536 = x5 := ⟨_, rfl⟩
  have W5 : IntKind.u64.wrap ((x4 : Int) + (x4 : Int) / 65536) = (x5 : Int) := by
    rw [show (x4 : Int) + (x4 : Int) / 65536 = (x5 : Int) by omega]; exact wrapu _ (by omega)
  rw [hx5] at HE
  have hx5l : x5 < 2604069133012901892 := by omega
  clear hx5 hx4l
  obtain ⟨x6, hx6⟩ : ∃ x6, x5 + x5 / 4294967296 = x6 := ⟨_, rfl⟩
  have W6 : IntKind.u64.wrap ((x5 : Int) + (x5 : Int) / 4294967296) = (x6 : Int) := by
    rw [show (x5 : Int) + (x5 : Int) / 4294967296 = (x6 : Int) by omega]; exact wrapu _ (by omega)
  rw [hx6] at HE
  have hx6l : x6 < 9223372036854775808 := by omega
  clear hx6 hx5l
  have A6 := and127 x6 hx6l
  rw [HE] at A6
  have W7 : wrap64 (x6 : Int) = (x6 : Int) := IntWalk.wrap64_in _ (by omega)
  clear HE hx6l
  generalize Lib.onesCount x = oc at *
  go_enter Tryd.func31, Tryd.ntmps31
  go_wp2_with fail
  go_ret
  exact ⟨rfl, rfl⟩

def count : List Int → Nat
  | [] => 0
  | x :: l => Lib.onesCount x.toNat + count l
theorem count_append (a b : List Int) : count (a ++ b) = count a + count b := by
  induction a with
  | nil => simp [count]
  | cons x a ih => simp only [List.cons_append, count, ih]; omega
theorem count_take (l : List Int) (k : Nat) (h : k < l.length) : count (l.take (k + 1)) = count (l.take k) + Lib.onesCount (l.getD k 0).toNat := by
  rw [take_snoc l k h, count_append]; simp [count]
theorem count_le (l : List Int) : count l ≤ 64 * l.length := by
  induction l with
  | nil => simp [count]
  | cons x l ih => have := Pop.popAux_le 64 x.toNat; simp only [count, List.length_cons, Lib.onesCount]; omega

set_option maxRecDepth 100000 in
set_option maxHeartbeats 400000 in
theorem count_none (w : World) :
    Calls Tryd.prog 12 #[.pointer none] w fun e w' => e = .returned (.int .i64 0) ∧ w = w' := by
  go_enter Tryd.func12, Tryd.ntmps12
  go_wp2
  go_ret
  exact ⟨rfl, rfl⟩

set_option maxRecDepth 100000 in
set_option maxHeartbeats 400000 in
theorem count_calls (w : World) (base g rows : Nat) (ws : List Int) (hs : SetAt w base g rows ws) :
    Calls Tryd.prog 12 #[.pointer (some ⟨g, 0, none⟩)] w fun e w' => e = .returned (.int .i64 (count ws : Nat)) ∧ w = w' := by
  obtain ⟨A, c, c0, c1, hC, hc⟩ := hs.cells
  have HC := Aside0.mk hC
  have HW := Aside0.mk hs.2.2.2.1
  have hlen : ws.length ≤ 16385 := by have h1 := hs.2.2.1; have h2 := hs.2.1; rw [h1]; unfold long64; omega
  clear hs hC
  go_enter Tryd.func12, Tryd.ntmps12
  go_wp2_with fail
  go_loop [2, 12] (fun nv kv => ∃ k : Nat, k ≤ ws.length ∧ kv = .int .i64 k ∧ nv = .int .i64 (count (ws.take k) : Nat)) (fun _ kv => ws.length - (intOf kv).toNat)
  case atStart => exact ⟨0, Nat.zero_le _, rfl, rfl⟩
  case round =>
    obtain ⟨k, hk, rfl, rfl⟩ := hrel
    have hcl := count_le (ws.take k)
    have hcl2 : count (ws.take k) ≤ 1048640 := by rw [List.length_take] at hcl; omega
    by_cases hlt : k < ws.length
    · obtain ⟨ad, e, hcell⟩ := Kd.at_int HC.out k (by omega) (by omega)
      subst e
      simp only [Int.toNat_natCast, rd_nat] at hcell
      have hw := HW.out.getD k
      have HS := Aside0.mk (count_take ws k hlt)
      generalize ws.getD k 0 = wv at *
      obtain ⟨wn, rfl⟩ := Int.eq_ofNat_of_zero_le hw.1
      rw [Int.toNat_natCast] at HS
      have hle := Pop.popAux_le 64 wn
      have hwn : wn < 18446744073709551616 := by omega
      clear hcl hw
      generalize count (ws.take k) = n at *
      go_wp2_with fail
      refine (ones_calls wn w hwn).mono ?_
      rintro e w1 ⟨rfl, rfl⟩
      replace hle : Lib.onesCount wn ≤ 64 := hle
      generalize Lib.onesCount wn = oc at *
      go_wp2_with fail
      go_round
      case rel => exact ⟨k + 1, by omega, by go_num, by rw [HS.out]; go_num⟩
      case measure => simp [intOf]; omega
    · have : k = ws.length := by omega
      subst this
      rw [List.take_length] at *
      clear hcl
      go_wp2_with fail
      go_ret
      exact ⟨rfl, rfl⟩

def byteAt (ws : List Int) (i : Nat) : Int := (((ws.getD (i / 8) 0).toNat / 2 ^ (i % 8 * 8) % 256 : Nat) : Int)
def byts (ws : List Int) (k : Nat) : List Int := (List.range k).map (byteAt ws)
theorem byts_length (ws : List Int) (k : Nat) : (byts ws k).length = k := by simp [byts]
theorem byts_succ (ws : List Int) (k : Nat) : byts ws (k + 1) = byts ws k ++ [byteAt ws k] := by simp [byts, List.range_succ]
theorem byts_bytes (ws : List Int) (k : Nat) : Bytes (byts ws k) := by
  intro x hx
  simp only [byts, List.mem_map] at hx
  obtain ⟨i, _, rfl⟩ := hx
  unfold byteAt
  omega

set_option maxRecDepth 100000 in
set_option maxHeartbeats 400000 in
theorem bytes_none (w : World) :
    Calls Tryd.prog 23 #[.pointer none] w fun e w' => e = .returned (.slice none 0 0) ∧ w = w' := by
  go_enter Tryd.func23, Tryd.ntmps23
  go_wp2
  go_ret
  exact ⟨rfl, rfl⟩

theorem mod64_w (i : Nat) (h : i % 8 < 8) : (i : Int).tmod 8 = ((i % 8 : Nat) : Int) := tmod8_w i

set_option maxRecDepth 100000 in
set_option maxHeartbeats 1600000 in
theorem bytes_calls (w : World) (base g rows : Nat) (ws : List Int) (hs : SetAt w base g rows ws) :
    Calls Tryd.prog 23 #[.pointer (some ⟨g, 0, none⟩)] w fun e w' => ∃ v, e = .returned v ∧ Kd.R (Kd.int .u8) 5 w' w.heap.size (fun _ => True) v (byts ws (long rows)) ∧ Below w.heap.size w w' := by
  obtain ⟨A, c, c0, c1, hC, hc⟩ := hs.cells
  have HC := Aside0.mk hC
  have HSA := Aside0.mk hs
  have HW := Aside0.mk hs.2.2.2.1
  have hrow := hs.2.1
  have hlen : ws.length = long64 rows := hs.2.2.1
  have hlong : long rows ≤ 8 * ws.length := by rw [hlen]; unfold long long64; omega
  have hlg : long rows ≤ 131073 := by unfold long; omega
  have hl6 : ws.length ≤ 16385 := by rw [hlen]; unfold long64; omega
  clear hs hC hlen
  go_enter Tryd.func23, Tryd.ntmps23
  go_wp2_with fail
  refine (long_calls rows w (by omega)).mono ?_
  rintro e w1 ⟨rfl, rfl⟩
  obtain ⟨ln, hln⟩ : ∃ ln, long rows = ln := ⟨_, rfl⟩
  rw [hln] at hlong hlg ⊢
  have HLn := Aside0.mk hln
  clear hln
  go_wp2_with (first
    | ((with_reducible refine gate_dst (N := 12) rfl ?_); refine Kd.R_make (Kd.int .u8) (w0 := w) w.heap.size 5 rfl (N := 12) rfl 36 _ _ rfl (ln : Int) rfl rfl Tryd.underlying36 (.int .u8 0) 1 info5 rfl (by decide) (by decide) (0 : Int) (ok := fun _ => True) (okp := fun _ => True) ?hz (fun _ h => h) trivial (by omega) (by omega) (Below.refl _ _) (Nat.le_refl _) ?_; (case hz => rfl); intro v6 w6 ho6 hb6 hg6 ha6; rw [Int.toNat_natCast] at ho6; obtain ⟨A6, c6, rfl, hc6, hC6⟩ := Kd.R_reads ho6; rw [List.length_replicate] at ho6 hc6 ⊢; have HO6 := Aside0.mk ho6; have HB6 := Aside0.mk hb6; clear ho6 hb6 hg6 ha6 hC6)
    | fail)
  clear c0 c1
  go_loopw [15] (fun kv w' => ∃ k : Nat, k ≤ ln ∧ kv = .int .i64 k ∧ Aside0 (Kd.R (Kd.int .u8) 5 w' w.heap.size (fun _ => True) (.slice A6 ln c6) (byts ws k ++ List.replicate (ln - k) 0)) ∧ Aside0 (Below w.heap.size w w')) (fun kv _ => ln - (intOf kv).toNat)
  case atStart => exact ⟨0, Nat.zero_le _, rfl, ⟨by simpa [byts] using HO6.out⟩, HB6⟩
  case round =>
    obtain ⟨k, hk, rfl, HO, HB⟩ := hrel
    by_cases hlt : k < ln
    · obtain ⟨g2, rfl, hg2, -⟩ := R_plain HO.out (by omega)
      obtain ⟨A', c', -, c1, hC', hc'⟩ := (HSA.out.below HB.out).cells
      have hqm : k / 8 < ws.length := by omega
      obtain ⟨ad, e, hcell⟩ := Kd.at_int hC' ((k / 8 : Nat) : Int) (by omega) (by omega)
      subst e
      simp only [Int.toNat_natCast, rd_nat] at hcell
      have hw := HW.out.getD (k / 8)
      obtain ⟨wn, hwn⟩ := Int.eq_ofNat_of_zero_le hw.1
      rw [hwn] at hcell hw
      have HP := Aside0.mk (R_set_at HO.out k (byteAt ws k))
      obtain ⟨hc2, hf2⟩ := R_at HO.out k hlt
      have hr9 : k % 8 < 8 := Nat.mod_lt _ (by decide)
      have hr8 := tmod8_w k
      have HV := Aside0.mk (show byteAt ws k = ((wn / 2 ^ (k % 8 * 8) % 256 : Nat) : Int) by unfold byteAt; rw [hwn, Int.toNat_natCast])
      have HS := Aside0.mk (show byts ws (k + 1) ++ List.replicate (ln - (k + 1)) 0 = (byts ws k ++ List.replicate (ln - k) 0).set k (byteAt ws k) by
        obtain ⟨d, hd⟩ : ∃ d, ln - k = d + 1 := ⟨ln - k - 1, by omega⟩
        rw [hd, List.replicate_succ, List.set_append_right _ _ (by rw [byts_length]; exact Nat.le_refl _), byts_length, Nat.sub_self, byts_succ, show ln - (k + 1) = d by omega]
        simp)
      have hwl : wn < 18446744073709551616 := by omega
      obtain ⟨r, hr⟩ : ∃ r, k % 8 = r := ⟨_, rfl⟩
      rw [hr] at hr8 hr9 HV
      obtain ⟨e8, he8⟩ : ∃ e8, r * 8 = e8 := ⟨_, rfl⟩
      have hr88 : (r : Int) * 8 = (e8 : Int) := by omega
      have he9 : e8 < 64 := by omega
      rw [he8] at HV
      clear he8
      have HB2 := Aside0.mk (below_set (j := k) (v := .int .u8 (byteAt ws k)) HB.out hg2)
      have HV2 := Aside0.mk (show byteAt ws k = (wn : Int) / 2 ^ e8 % 256 by rw [HV.out]; simp)
      generalize (byts ws k ++ List.replicate (ln - k) 0).getD k 0 = old at hc2
      clear hwn hw hr hC'
      go_wp2_with fail
      go_roundw
      case rel => exact ⟨k + 1, by omega, by go_num, ⟨by rw [HS.out, ← HV2.out]; exact HP.out⟩, ⟨by rw [← HV2.out]; exact HB2.out⟩⟩
      case measure => simp [intOf]; omega
    · have : k = ln := by omega
      subst this
      have HS := Aside0.mk (show byts ws k = byts ws k ++ List.replicate (k - k) 0 by simp)
      go_wp2_with fail
      go_ret
      exact ⟨_, rfl, by rw [HLn.out, HS.out]; exact HO.out, HB.out⟩
end Go.Proofs.YtcgfheagbaafoaaDoor.Sets
