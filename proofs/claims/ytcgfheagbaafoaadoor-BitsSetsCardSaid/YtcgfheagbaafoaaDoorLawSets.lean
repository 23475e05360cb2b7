/-
  Proved: what is in both of two sets, in one, not in, is so row by row; those that are asked don't change (the law BitsSets), as a card whose table (of math/bits) is tied to the program's text; no condition of ours.
-/
import Derived.Test.YtcgfheagbaafoaaDoorRows
import Derived.Test.YtcgfheagbaafoaaDoorCards
import Derived.Test.YtcgfheagbaafoaaDoorTie
import Derived.Test.YtcgfheagbaafoaaDoorAwake2
import Derived.Test.YtcgfheagbaafoaaDoorTabOf
import Derived.Test.YtcgfheagbaafoaaDoorIs
import Derived.Test.YtcgfheagbaafoaaDoorOpen
import Derived.ProofKit
import Derived.OpenShut
import Derived.ShutString
import Derived.ChangeOld
import Derived.LaidMore
import Derived.Stop.Joined
import Derived.SevenTiedAt
import Derived.Lib.LaidTab
import Derived.MakeChecks
namespace Go.Proofs.YtcgfheagbaafoaaDoor.bitsSets
set_option linter.unusedVariables false
set_option linter.unusedSimpArgs false
open Go.RowKit Go.Proofs.YtcgfheagbaafoaaDoorW.PrintWords Go.Proofs.YtcgfheagbaafoaaDoor.Lib
open Go.ChangeShapes Go.WideShapes Go.ChangeAt
open Go.ChangeMaps (open_string shut_string)
theorem own : ownKnob Tryd.prog.godebug = none := by kernel_rfl
theorem laidOut : laidOutB Tryd.prog = true := by kernel_rfl
open Go.Proofs.YtcgfheagbaafoaaDoor.Pack Go.Proofs.YtcgfheagbaafoaaDoor.PackA Go.Proofs.YtcgfheagbaafoaaDoor.Sets
open Go.Proofs.YtcgfheagbaafoaaDoorW.PrintLast

theorem i64_bd {n : Int} (h : (Lit.int .i64 n).wf = true) : -9223372036854775808 ≤ n ∧ n ≤ 9223372036854775807 := by
  simp only [Lit.wf, Bool.and_eq_true, decide_eq_true_eq] at h; exact h
def boolsP (f : Nat → Bool) (k n : Nat) : List Bool := boolsF f k ++ List.replicate (n - k) false
theorem boolsP_length (f : Nat → Bool) (k n : Nat) (h : k ≤ n) : (boolsP f k n).length = n := by unfold boolsP; rw [List.length_append, boolsF_length, List.length_replicate]; omega
theorem boolsP_zero (f : Nat → Bool) (n : Nat) : List.replicate n false = boolsP f 0 n := by simp [boolsP, boolsF]
theorem boolsP_all (f : Nat → Bool) (n : Nat) : boolsP f n n = boolsF f n := by simp [boolsP]
theorem boolsP_set (f : Nat → Bool) (k n : Nat) (b : Bool) (h : k < n) (hf : f k = b) : (boolsP f k n).set k b = boolsP f (k + 1) n := by
  unfold boolsP
  obtain ⟨d, hd⟩ : ∃ d, n - k = d + 1 := ⟨n - k - 1, by omega⟩
  rw [hd, List.replicate_succ, List.set_append_right _ _ (by rw [boolsF_length]; exact Nat.le_refl _), boolsF_length, Nat.sub_self, show n - (k + 1) = d by omega]
  simp [boolsF, List.range_succ, hf]
theorem R_shape {α : Type} {d : Kd α} {e : Nat} {w : World} {base : Nat} {ok : Nat → Prop} {v : Value} {xs : List α} (h : d.R e w base ok v xs) {b : Nat} (hb : v.ownBlock = some b) : ∃ c, v = .slice (some ⟨b, 0, none⟩) xs.length c ∧ b < w.heap.size := by
  have hlt := Kd.R_lt h b hb
  obtain ⟨_, inner, ho, _⟩ := h
  rcases ho.2 with ⟨e1, _⟩ | ⟨g, cap, cur, e1, hg, _⟩
  · subst e1; cases hb
  · subst e1
    injection hb with hb
    subst hb
    exact ⟨cap, rfl, hlt⟩
theorem R_farb {e : Nat} {w : World} {base : Nat} {ok : Nat → Prop} {g n c : Nat} {xs : List Bool} (h : Kd.bool.R e w base ok (.slice (some ⟨g, 0, none⟩) n c) xs) {p : Addr} (hne : p.block ≠ g) (u : Value) :
    Kd.bool.R e (w.setCell p u) base ok (.slice (some ⟨g, 0, none⟩) n c) xs :=
  Kd.R_of_own (own_setCell (Kd.own_of_R h) (fun e => hne (by injection e)) u) h.1

set_option maxRecDepth 100000 in
set_option maxHeartbeats 3200000 in
theorem walk (n0 : Int) (l : List Int) (A : Option Addr) (m c : Nat) (l2 : List Int) (A2 : Option Addr) (m2 c2 : Nat) (w : World) (hC : Kd.C (Kd.int .i64) w A m l) (hl : ∀ x ∈ l, -9223372036854775808 ≤ x ∧ x ≤ 9223372036854775807)
    (hC2 : Kd.C (Kd.int .i64) w A2 m2 l2) (hl2 : ∀ x ∈ l2, -9223372036854775808 ≤ x ∧ x ≤ 9223372036854775807) (h0 : -9223372036854775808 ≤ n0) (h1 : n0 ≤ 9223372036854775807) (hT : Tab w) :
    Calls Tryd.prog 6 #[.int .i64 n0, .slice A m c, .slice A2 m2 c2] w fun e w' => e = .returned (.bool true) ∧ Below w.heap.size w w' := by
  have HC := Aside0.mk hC
  have HL := Aside0.mk hl
  have HC2 := Aside0.mk hC2
  have HL2 := Aside0.mk hl2
  have HT := Aside0.mk hT
  have HR := Aside0.mk (fun w => rows_calls n0 w h0 h1)
  have hn : absOf n0 % 300 < 300 := Nat.mod_lt _ (by decide)
  clear hC hl hC2 hl2 hT
  generalize absOf n0 % 300 = n at *
  go_enter Tryd.func6, Tryd.ntmps6
  go_wp2_with fail
  refine (awake_calls w).mono ?_
  rintro e w1 ⟨rfl, hb1⟩
  have HB1 := Aside0.mk hb1
  clear hb1
  go_wp2_with fail
  refine (HR.out w1).mono ?_
  rintro e w2 ⟨rfl, rfl⟩
  go_wp2_with fail
  refine (madel_calls n l A m c w1 (by omega) (Kd.C_below HC.out HB1.out) HL.out).mono ?_
  rintro e w3 ⟨g3, v3, rfl, hs, ho, hb⟩
  have HB3 := Aside0.mk (below_then HB1.out HB1.out.size hb)
  have HS3 := Aside0.mk hs
  obtain ⟨A3, c3, rfl, -, hC3⟩ := Kd.R_reads ho
  rw [boolsF_length] at hC3 ⊢
  have HC3 := Aside0.mk hC3
  clear hs ho hb HB1 hC3
  go_wp2_with fail
  refine (madel_calls n l2 A2 m2 c2 w3 (by omega) (Kd.C_below HC2.out HB3.out) HL2.out).mono ?_
  rintro e w4 ⟨g4, v4, rfl, hs, ho, hb⟩
  have HB4 := Aside0.mk (below_then HB3.out HB3.out.size hb)
  have HS4 := Aside0.mk hs
  obtain ⟨A4, c4, rfl, -, hC4⟩ := Kd.R_reads ho
  rw [boolsF_length] at hC4 ⊢
  have HC4 := Aside0.mk hC4
  replace HC3 := Aside0.mk (Kd.C_below HC3.out hb)
  replace HS3 := Aside0.mk (FSet.below HS3.out hb)
  clear hs ho hb HB3 hC4
  generalize inP l = fs at *
  generalize inP l2 = ft at *
  (go_wp2_with fail; refine (and_calls w4 _ g3 _ g4 n fs ft HS3.out HS4.out).mono ?_; rintro e w5 ⟨g5, rfl, hs, hb⟩; have HB5 := Aside0.mk (below_then HB4.out HB4.out.size hb); have HS5 := Aside0.mk (show FSet _ _ _ _ _ from hs); replace HS3 := Aside0.mk (FSet.below HS3.out hb); replace HS4 := Aside0.mk (FSet.below HS4.out hb); have HB45 := Aside0.mk hb; clear hs hb HB4)
  replace HC3 := Aside0.mk (Kd.C_below HC3.out HB45.out)
  replace HC4 := Aside0.mk (Kd.C_below HC4.out HB45.out)
  (go_wp2_with fail; refine (or_calls w5 _ g3 _ g4 n fs ft HS3.out HS4.out).mono ?_; rintro e w6 ⟨g6, rfl, hs, hb⟩; have HB6 := Aside0.mk (below_then HB5.out HB5.out.size hb); have HS6 := Aside0.mk (show FSet _ _ _ _ _ from hs); replace HS3 := Aside0.mk (FSet.below HS3.out hb); replace HS4 := Aside0.mk (FSet.below HS4.out hb); replace HS5 := Aside0.mk (FSet.below HS5.out hb); have HB56 := Aside0.mk hb; clear hs hb HB5)
  replace HC3 := Aside0.mk (Kd.C_below HC3.out HB56.out)
  replace HC4 := Aside0.mk (Kd.C_below HC4.out HB56.out)
  (go_wp2_with fail; refine (not_calls w6 _ g3 n fs HS3.out).mono ?_; rintro e w7 ⟨g7, rfl, hs, hb⟩; have HB7 := Aside0.mk (below_then HB6.out HB6.out.size hb); have HS7 := Aside0.mk (show FSet _ _ _ _ _ from hs); replace HS3 := Aside0.mk (FSet.below HS3.out hb); replace HS4 := Aside0.mk (FSet.below HS4.out hb); replace HS5 := Aside0.mk (FSet.below HS5.out hb); replace HS6 := Aside0.mk (FSet.below HS6.out hb); have HB67 := Aside0.mk hb; clear hs hb HB6)
  replace HC3 := Aside0.mk (Kd.C_below HC3.out HB67.out)
  replace HC4 := Aside0.mk (Kd.C_below HC4.out HB67.out)
  (go_wp2_with fail; refine (full_calls n w7 (by omega)).mono ?_; rintro e w8 ⟨g8, rfl, hs, hb⟩; have HB8 := Aside0.mk (below_then HB7.out HB7.out.size hb); have HS8 := Aside0.mk (show FSet _ _ _ _ _ from hs); replace HS3 := Aside0.mk (FSet.below HS3.out hb); replace HS4 := Aside0.mk (FSet.below HS4.out hb); replace HS5 := Aside0.mk (FSet.below HS5.out hb); replace HS6 := Aside0.mk (FSet.below HS6.out hb); replace HS7 := Aside0.mk (FSet.below HS7.out hb); have HB78 := Aside0.mk hb; clear hs hb HB7)
  replace HC3 := Aside0.mk (Kd.C_below HC3.out HB78.out)
  replace HC4 := Aside0.mk (Kd.C_below HC4.out HB78.out)
  go_wp2_with (first
    | ((with_reducible refine gate_dst (N := 81) rfl ?_); refine Kd.R_make Kd.bool (w0 := w8) w8.heap.size 4 rfl (N := 81) rfl 26 _ _ rfl (n : Int) rfl rfl Tryd.underlying26 (.bool false) 1 infob rfl (by decide) (by decide) false (ok := fun _ => True) (okp := fun _ => True) ?hz (fun _ h => h) trivial (by omega) (by omega) (Below.refl _ _) (Nat.le_refl _) ?_; (case hz => rfl); intro v6 w9 ho6 hb6 hg6 ha6; rw [Int.toNat_natCast] at ho6; obtain ⟨g9, hv6, hge6⟩ := ha6; obtain ⟨c9, rfl, hlt6⟩ := R_shape ho6 hv6; rw [List.length_replicate] at ho6 ⊢; have HO9 := Aside0.mk ho6; have HB9 := Aside0.mk hb6; have HG9 := Aside0.mk hge6; have HL9 := Aside0.mk hlt6; clear ho6 hb6 hg6 hv6 hge6 hlt6)
    | ((with_reducible refine gate_dst (N := 83) rfl ?_); refine Kd.R_make Kd.bool (w0 := w9) w9.heap.size 4 rfl (N := 83) rfl 26 _ _ rfl (n : Int) rfl rfl Tryd.underlying26 (.bool false) 1 infob rfl (by decide) (by decide) false (ok := fun _ => True) (okp := fun _ => True) ?hz (fun _ h => h) trivial (by omega) (by omega) (Below.refl _ _) (Nat.le_refl _) ?_; (case hz => rfl); intro v6 w10 ho6 hb6 hg6 ha6; rw [Int.toNat_natCast] at ho6; obtain ⟨g10, hv6, hge6⟩ := ha6; obtain ⟨c10, rfl, hlt6⟩ := R_shape ho6 hv6; rw [List.length_replicate] at ho6 ⊢; have HO10 := Aside0.mk ho6; have HB10 := Aside0.mk hb6; have HG10 := Aside0.mk hge6; have HL10 := Aside0.mk hlt6; clear ho6 hb6 hg6 hv6 hge6 hlt6)
    | ((with_reducible refine gate_dst (N := 85) rfl ?_); refine Kd.R_make Kd.bool (w0 := w10) w10.heap.size 4 rfl (N := 85) rfl 26 _ _ rfl (n : Int) rfl rfl Tryd.underlying26 (.bool false) 1 infob rfl (by decide) (by decide) false (ok := fun _ => True) (okp := fun _ => True) ?hz (fun _ h => h) trivial (by omega) (by omega) (Below.refl _ _) (Nat.le_refl _) ?_; (case hz => rfl); intro v6 w11 ho6 hb6 hg6 ha6; rw [Int.toNat_natCast] at ho6; obtain ⟨g11, hv6, hge6⟩ := ha6; obtain ⟨c11, rfl, hlt6⟩ := R_shape ho6 hv6; rw [List.length_replicate] at ho6 ⊢; have HO11 := Aside0.mk ho6; have HB11 := Aside0.mk hb6; have HG11 := Aside0.mk hge6; have HL11 := Aside0.mk hlt6; clear ho6 hb6 hg6 hv6 hge6 hlt6)
    | ((with_reducible refine gate_dst (N := 87) rfl ?_); refine Kd.R_make Kd.bool (w0 := w11) w11.heap.size 4 rfl (N := 87) rfl 26 _ _ rfl (n : Int) rfl rfl Tryd.underlying26 (.bool false) 1 infob rfl (by decide) (by decide) false (ok := fun _ => True) (okp := fun _ => True) ?hz (fun _ h => h) trivial (by omega) (by omega) (Below.refl _ _) (Nat.le_refl _) ?_; (case hz => rfl); intro v6 w12 ho6 hb6 hg6 ha6; rw [Int.toNat_natCast] at ho6; obtain ⟨g12, hv6, hge6⟩ := ha6; obtain ⟨c12, rfl, hlt6⟩ := R_shape ho6 hv6; rw [List.length_replicate] at ho6 ⊢; have HO12 := Aside0.mk ho6; have HB12 := Aside0.mk hb6; have HG12 := Aside0.mk hge6; have HL12 := Aside0.mk hlt6; clear ho6 hb6 hg6 hv6 hge6 hlt6)
    | fail)
  have HBb := Aside0.mk (below_then HB9.out HB9.out.size (below_then HB10.out HB10.out.size (below_then HB11.out HB11.out.size HB12.out)))
  have h9 : g9 < w9.heap.size := HL9.out
  have h10 : g10 < w10.heap.size := HL10.out
  have h11 : g11 < w11.heap.size := HL11.out
  have k9 : w8.heap.size ≤ g9 := HG9.out
  have k10 : w9.heap.size ≤ g10 := HG10.out
  have k11 : w10.heap.size ≤ g11 := HG11.out
  have k12 : w11.heap.size ≤ g12 := HG12.out
  have s9 := HB9.out.size
  have s10 := HB10.out.size
  have s11 := HB11.out.size
  have n1 : ¬ g9 = g10 := by omega
  have n2 : ¬ g9 = g11 := by omega
  have n3 : ¬ g9 = g12 := by omega
  have n4 : ¬ g10 = g11 := by omega
  have n5 : ¬ g10 = g12 := by omega
  have n6 : ¬ g11 = g12 := by omega
  have m1 : ¬ g10 = g9 := by omega
  have m2' : ¬ g11 = g9 := by omega
  have m3 : ¬ g12 = g9 := by omega
  have m4 : ¬ g11 = g10 := by omega
  have m5 : ¬ g12 = g10 := by omega
  have m6 : ¬ g12 = g11 := by omega
  have HK := Aside0.mk (show w8.heap.size ≤ g9 ∧ w8.heap.size ≤ g10 ∧ w8.heap.size ≤ g11 ∧ w8.heap.size ≤ g12 by omega)
  replace HO9 := Aside0.mk (Kd.R_below (Kd.R_below (Kd.R_below HO9.out HB10.out) HB11.out) HB12.out)
  replace HO10 := Aside0.mk (Kd.R_below (Kd.R_below HO10.out HB11.out) HB12.out)
  replace HO11 := Aside0.mk (Kd.R_below HO11.out HB12.out)
  clear h9 h10 h11 k9 k10 k11 k12 s9 s10 s11 HL9 HL10 HL11 HL12 HG9 HG10 HG11 HG12 HB9 HB10 HB11 HB12
  go_loopw [25] (fun kv w' => ∃ k : Nat, k ≤ n ∧ kv = .int .i64 k ∧ Aside0 (Kd.bool.R 4 w' 0 (fun _ => True) (.slice (some ⟨g9, 0, none⟩) n c9) (boolsP (fun i => fs i && ft i) k n)) ∧ Aside0 (Kd.bool.R 4 w' 0 (fun _ => True) (.slice (some ⟨g10, 0, none⟩) n c10) (boolsP (fun i => fs i || ft i) k n)) ∧ Aside0 (Kd.bool.R 4 w' 0 (fun _ => True) (.slice (some ⟨g11, 0, none⟩) n c11) (boolsP (fun i => !fs i) k n)) ∧ Aside0 (Kd.bool.R 4 w' 0 (fun _ => True) (.slice (some ⟨g12, 0, none⟩) n c12) (boolsP (fun _ => true) k n)) ∧ Aside0 (Below w8.heap.size w8 w')) (fun kv _ => n - (intOf kv).toNat)
  case atStart => exact ⟨0, Nat.zero_le _, rfl, ⟨by rw [← boolsP_zero]; exact Kd.R_lower HO9.out (Nat.zero_le _)⟩, ⟨by rw [← boolsP_zero]; exact Kd.R_lower HO10.out (Nat.zero_le _)⟩, ⟨by rw [← boolsP_zero]; exact Kd.R_lower HO11.out (Nat.zero_le _)⟩, ⟨by rw [← boolsP_zero]; exact Kd.R_lower HO12.out (Nat.zero_le _)⟩, HBb⟩
  case round =>
    clear HO9 HO10 HO11 HO12 HBb
    obtain ⟨k, hk, rfl, HO9, HO10, HO11, HO12, HB⟩ := hrel
    by_cases hlt : k < n
    · obtain ⟨ad3, e, hcell3⟩ := Kd.at_bool HC3.out k (by omega) (by omega)
      subst e
      obtain ⟨ad4, e, hcell4⟩ := Kd.at_bool HC4.out k (by omega) (by omega)
      subst e
      have e1 : rdOf false (boolsF fs n) (k : Int) = fs k := by unfold rdOf; rw [Int.toNat_natCast]; exact boolsF_get fs n k hlt
      have e2 : rdOf false (boolsF ft n) (k : Int) = ft k := by unfold rdOf; rw [Int.toNat_natCast]; exact boolsF_get ft n k hlt
      rw [e1, Int.toNat_natCast] at hcell3
      rw [e2, Int.toNat_natCast] at hcell4
      obtain ⟨b3, o3, s3⟩ := ad3
      obtain ⟨b4, o4, s4⟩ := ad4
      obtain rfl : s3 = none := by
        obtain ⟨ad, e, h⟩ := Kd.at_bool HC3.out 0 (by omega) (by omega)
        cases e
        simpa [Addr.add] using World.cell?_spot h
      obtain rfl : s4 = none := by
        obtain ⟨ad, e, h⟩ := Kd.at_bool HC4.out 0 (by omega) (by omega)
        cases e
        simpa [Addr.add] using World.cell?_spot h
      have hcell3' := pw_cell_below HB.out hcell3
      have hcell4' := pw_cell_below HB.out hcell4
      have i3 := World.block_lt_of_cell? w8 _ hcell3
      have i4 := World.block_lt_of_cell? w8 _ hcell4
      rw [add_at] at hcell3' hcell4' i3 i4
      replace i3 : b3 < w8.heap.size := i3
      replace i4 : b4 < w8.heap.size := i4
      obtain ⟨q9, q10, q11, q12⟩ := HK.out
      clear e1 e2 hcell3 hcell4
      obtain ⟨d9, f9⟩ := R_atb HO9.out k hlt
      obtain ⟨d10, f10⟩ := R_atb HO10.out k hlt
      obtain ⟨d11, f11⟩ := R_atb HO11.out k hlt
      obtain ⟨d12, f12⟩ := R_atb HO12.out k hlt
      generalize (boolsP (fun i => fs i && ft i) k n).getD k false = o9 at *
      generalize (boolsP (fun i => fs i || ft i) k n).getD k false = o10 at *
      generalize (boolsP (fun i => !fs i) k n).getD k false = o11 at *
      generalize (boolsP (fun _ => true) k n).getD k false = o12 at *
      have b39 : ¬ b3 = g9 := by omega
      have b310 : ¬ b3 = g10 := by omega
      have b311 : ¬ b3 = g11 := by omega
      have b312 : ¬ b3 = g12 := by omega
      have b49 : ¬ b4 = g9 := by omega
      have b410 : ¬ b4 = g10 := by omega
      have b411 : ¬ b4 = g11 := by omega
      have b412 : ¬ b4 = g12 := by omega
      obtain ⟨x, hx⟩ : ∃ x, fs k = x := ⟨_, rfl⟩
      obtain ⟨y, hy⟩ : ∃ y, ft k = y := ⟨_, rfl⟩
      have HP9 := Aside0.mk (boolsP_set (fun i => fs i && ft i) k n (x && y) hlt (by show (fs k && ft k) = _; rw [hx, hy]))
      have HP10 := Aside0.mk (boolsP_set (fun i => fs i || ft i) k n (x || y) hlt (by show (fs k || ft k) = _; rw [hx, hy]))
      have HP11 := Aside0.mk (boolsP_set (fun i => !fs i) k n (!x) hlt (by show (!fs k) = _; rw [hx]))
      have HP12 := Aside0.mk (boolsP_set (fun _ => true) k n true hlt rfl)
      rw [hx] at hcell3'
      rw [hy] at hcell4'
      clear hx hy i3 i4
      have hq9 := q9
      cases x <;> cases y
      all_goals
        go_wp2_with fail
        go_roundw
        case rel => exact ⟨k + 1, by omega, by go_num,
          ⟨by rw [← HP9.out]; exact R_farb (R_farb (R_farb (R_setb HO9.out k _) m1 _) m2' _) m3 _⟩,
          ⟨by rw [← HP10.out]; exact R_farb (R_farb (R_setb (R_farb HO10.out n1 _) k _) m4 _) m5 _⟩,
          ⟨by rw [← HP11.out]; exact R_farb (R_setb (R_farb (R_farb HO11.out n2 _) n4 _) k _) m6 _⟩,
          ⟨by rw [← HP12.out]; exact R_setb (R_farb (R_farb (R_farb HO12.out n3 _) n5 _) n6 _) k _⟩,
          ⟨below_set (below_set (below_set (below_set HB.out q9) q10) q11) q12⟩⟩
        case measure => simp [intOf]; omega
    · obtain rfl : k = n := by omega
      replace HS3 := Aside0.mk (FSet.below HS3.out HB.out)
      replace HS4 := Aside0.mk (FSet.below HS4.out HB.out)
      replace HS5 := Aside0.mk (FSet.below HS5.out HB.out)
      replace HS6 := Aside0.mk (FSet.below HS6.out HB.out)
      replace HS7 := Aside0.mk (FSet.below HS7.out HB.out)
      replace HS8 := Aside0.mk (FSet.below HS8.out HB.out)
      replace HC3 := Aside0.mk (Kd.C_below HC3.out HB.out)
      replace HC4 := Aside0.mk (Kd.C_below HC4.out HB.out)
      rw [boolsP_all] at HO9 HO10 HO11 HO12
      have HC9 : Aside0 (Kd.bool.C wr _ k _) := ⟨R_C HO9.out⟩
      have HC10 : Aside0 (Kd.bool.C wr _ k _) := ⟨R_C HO10.out⟩
      have HC11 : Aside0 (Kd.bool.C wr _ k _) := ⟨R_C HO11.out⟩
      have HC12 : Aside0 (Kd.bool.C wr _ k _) := ⟨R_C HO12.out⟩
      have HBr := Aside0.mk (below_then HB8.out HB8.out.size HB.out)
      clear HO9 HO10 HO11 HO12 HB HB8
      go_wp2_with fail
      refine (is_calls wr _ g5 k _ _ c9 HS5.out HC9.out (HT.out.below HBr.out)).mono ?_
      rintro e w20 ⟨rfl, hb⟩
      have HB20 := Aside0.mk (below_then HBr.out HBr.out.size hb)
      replace HS6 := Aside0.mk (FSet.below HS6.out hb)
      replace HC10 := Aside0.mk (Kd.C_below HC10.out hb)
      replace HS7 := Aside0.mk (FSet.below HS7.out hb)
      replace HC11 := Aside0.mk (Kd.C_below HC11.out hb)
      replace HS8 := Aside0.mk (FSet.below HS8.out hb)
      replace HC12 := Aside0.mk (Kd.C_below HC12.out hb)
      replace HS3 := Aside0.mk (FSet.below HS3.out hb)
      replace HC3 := Aside0.mk (Kd.C_below HC3.out hb)
      replace HS4 := Aside0.mk (FSet.below HS4.out hb)
      replace HC4 := Aside0.mk (Kd.C_below HC4.out hb)
      clear hb HBr HS5 HC9
      go_wp2_with fail
      refine (is_calls w20 _ g6 k _ _ c10 HS6.out HC10.out (HT.out.below HB20.out)).mono ?_
      rintro e w21 ⟨rfl, hb⟩
      have HB21 := Aside0.mk (below_then HB20.out HB20.out.size hb)
      replace HS7 := Aside0.mk (FSet.below HS7.out hb)
      replace HC11 := Aside0.mk (Kd.C_below HC11.out hb)
      replace HS8 := Aside0.mk (FSet.below HS8.out hb)
      replace HC12 := Aside0.mk (Kd.C_below HC12.out hb)
      replace HS3 := Aside0.mk (FSet.below HS3.out hb)
      replace HC3 := Aside0.mk (Kd.C_below HC3.out hb)
      replace HS4 := Aside0.mk (FSet.below HS4.out hb)
      replace HC4 := Aside0.mk (Kd.C_below HC4.out hb)
      clear hb HB20 HS6 HC10
      go_wp2_with fail
      refine (is_calls w21 _ g7 k _ _ c11 HS7.out HC11.out (HT.out.below HB21.out)).mono ?_
      rintro e w22 ⟨rfl, hb⟩
      have HB22 := Aside0.mk (below_then HB21.out HB21.out.size hb)
      replace HS8 := Aside0.mk (FSet.below HS8.out hb)
      replace HC12 := Aside0.mk (Kd.C_below HC12.out hb)
      replace HS3 := Aside0.mk (FSet.below HS3.out hb)
      replace HC3 := Aside0.mk (Kd.C_below HC3.out hb)
      replace HS4 := Aside0.mk (FSet.below HS4.out hb)
      replace HC4 := Aside0.mk (Kd.C_below HC4.out hb)
      clear hb HB21 HS7 HC11
      go_wp2_with fail
      refine (is_calls w22 _ g8 k _ _ c12 HS8.out HC12.out (HT.out.below HB22.out)).mono ?_
      rintro e w23 ⟨rfl, hb⟩
      have HB23 := Aside0.mk (below_then HB22.out HB22.out.size hb)
      replace HS3 := Aside0.mk (FSet.below HS3.out hb)
      replace HC3 := Aside0.mk (Kd.C_below HC3.out hb)
      replace HS4 := Aside0.mk (FSet.below HS4.out hb)
      replace HC4 := Aside0.mk (Kd.C_below HC4.out hb)
      clear hb HB22 HS8 HC12
      go_wp2_with fail
      refine (is_calls w23 _ g3 k _ _ c3 HS3.out HC3.out (HT.out.below HB23.out)).mono ?_
      rintro e w24 ⟨rfl, hb⟩
      have HB24 := Aside0.mk (below_then HB23.out HB23.out.size hb)
      replace HS4 := Aside0.mk (FSet.below HS4.out hb)
      replace HC4 := Aside0.mk (Kd.C_below HC4.out hb)
      clear hb HB23 HS3 HC3
      go_wp2_with fail
      refine (is_calls w24 _ g4 k _ _ c4 HS4.out HC4.out (HT.out.below HB24.out)).mono ?_
      rintro e w25 ⟨rfl, hb⟩
      have HB25 := Aside0.mk (below_then HB24.out HB24.out.size hb)
      clear hb HB24 HS4 HC4
      go_wp2_with fail
      go_ret
      exact ⟨rfl, HB25.out⟩

theorem door_met (os : Os) (args : Array Value) : laidMetH Tryd.prog [("math/bits.deBruijn64tab", Rows.laid_math_bits_deBruijn64tab)] ((World.doorLaid Tryd.prog 400 os).forCall (fun _ _ => 0) ⟨#[], args, []⟩).memory :=
  laidMetH_of_parts3 (fuel := 8) (laidMet_of_run' 8 (by kernel_rfl) (by kernel_rfl)) (by kernel_rfl) (by kernel_rfl)

set_option maxRecDepth 100000 in
theorem lifted (os : Os) (started : os.Started) (H : Type) (enc : TypeId × Value → H) :
    ReturnsInHanded {} Tryd.checked os 6 .any (fun w args => (Rows.bitsSetsSpec.pre enc Tryd.prog Tryd.f6 [] false w args ∧ laidMetH Tryd.prog [("math/bits.deBruijn64tab", Rows.laid_math_bits_deBruijn64tab)] w) ∧ sizedMet enc Tryd.prog Tryd.f6 (OpenSpec.ofChange Rows.bitsSetsSpec) false w args)
      (Rows.bitsSetsSpec.post enc Tryd.prog Tryd.f6 false true false false) := by
  refine returnsInHanded_of_change_and (C := Tryd.checked) (X := fun w _ => laidMetH Tryd.prog [("math/bits.deBruijn64tab", Rows.laid_math_bits_deBruijn64tab)] w) (fun _ _ _ hh h => h.of_heap hh) own started (by kernel_rfl) Tryd.func6
    (ChangeSpec.witness_shaped (enc := enc) (C := Tryd.checked) (os := os) (X := fun w _ => laidMetH Tryd.prog [("math/bits.deBruijn64tab", Rows.laid_math_bits_deBruijn64tab)] w) false (World.doorLaid Tryd.prog 400 os) #[.int .i64 0, .slice none 0 0, .slice none 0 0] 8 rfl (World.shaped_of_RefB (by kernel_rfl) (by kernel_rfl)) (by kernel_rfl) (by kernel_rfl) (by kernel_rfl) (door_met os _)) ?_
  intro W base args ds gs before hval0 hW _ _ hL _
  have hval : ∀ (j : Nat) t v, Tryd.f6.params[j]? = some t → args[j]? = some v → Value.okWide Tryd.prog W .any base t v := hval0
  have hW' := hW
  obtain ⟨p, q, hA0, hV, rfl, hfz, hnd⟩ := hW
  have hA : DataW.TrodAll enc Tryd.prog W 0 (fun _ => true) true Tryd.f6.params.toList args.toList ds p := hA0
  rw [Tryd.params6] at hA hval
  obtain ⟨v0, vs0, d0, ds0, p0, q0, hargs, rfl, rfl, h0, r0⟩ := trodAll_cons hA
  obtain ⟨v1, vs1, d1, ds1, p1, q1, rfl, rfl, rfl, h1, r1⟩ := trodAll_cons r0
  obtain ⟨v2, vs2, d2, ds2, p2, q2, rfl, rfl, rfl, h2, r2⟩ := trodAll_cons r1
  obtain ⟨rfl, rfl, rfl⟩ := trodAll_nil r2
  obtain rfl : args = #[v0, v1, v2] := by cases args; simp_all
  obtain ⟨rfl, rfl⟩ := trodVars_none hV
  have k0 := h0
  have lt0 : ∀ x ∈ p0, x.block < W.heap.size := by obtain ⟨m, hm⟩ := k0; exact DataW.trod_lt m _ _ _ hm
  obtain ⟨a0, rfl, _, _, w0⟩ := open_int Tryd.underlying3 (hval 0 3 v0 rfl rfl) h0
  have k1 := h1
  have lt1 : ∀ x ∈ p1, x.block < W.heap.size := by obtain ⟨m, hm⟩ := k1; exact DataW.trod_lt m _ _ _ hm
  obtain ⟨a1, len1, cap1, rfl⟩ := okWide_slice Tryd.underlying22 (hval 1 22 v1 rfl rfl)
  obtain ⟨xs1, hl1, hm1, hC1, hb1⟩ := open_nums Tryd.underlying22 Tryd.underlying3 (by kernel_rfl) h1
  have k2 := h2
  have lt2 : ∀ x ∈ p2, x.block < W.heap.size := by obtain ⟨m, hm⟩ := k2; exact DataW.trod_lt m _ _ _ hm
  obtain ⟨a2, len2, cap2, rfl⟩ := okWide_slice Tryd.underlying22 (hval 2 22 v2 rfl rfl)
  obtain ⟨xs2, hl2, hm2, hC2, hb2⟩ := open_nums Tryd.underlying22 Tryd.underlying3 (by kernel_rfl) h2
  have tab := tab_of hL
  clear hA0 hval0
  refine (walk a0 xs1 _ _ _ xs2 _ _ _ W hC1 (fun x hx => i64_bd (hb1 x hx)) hC2 (fun x hx => i64_bd (hb2 x hx)) (i64_bd w0).1 (i64_bd w0).2 tab).mono fun e W' ⟨he, bel⟩ => ?_
  subst he
  exact ⟨_, rfl, _, _, _, [], _, [], hW', trodAll_mk1 (shut_bool Tryd.underlying4 _), (trodAll_cons_mk (Below.trod laidOut (by kernel_rfl) (of_decide_eq_true (by kernel_rfl)) k0 bel lt0) (trodAll_cons_mk (Below.trod laidOut (by kernel_rfl) (of_decide_eq_true (by kernel_rfl)) k1 bel lt1) (trodAll_cons_mk (Below.trod laidOut (by kernel_rfl) (of_decide_eq_true (by kernel_rfl)) k2 bel lt2) trodAll_mk0))), rfl, bel.frame _, fun h => by cases h⟩

theorem row_holds : Rows.BitsSetsSaid :=
  OpenClaim.holds_of_wide 6 Tryd.f6 rfl rfl rfl rfl rfl rfl rfl ⟨rfl, rfl, rfl, rfl, rfl⟩ rfl rfl rfl rfl rfl (by kernel_rfl) Tryd.func6 (by kernel_rfl)
    (of_decide_eq_true (by kernel_rfl)) (by unfold Func.isWrapper; first | (rw [if_pos (by decide +kernel)]; kernel_rfl) | (rw [if_neg (by decide +kernel)]; exact ⟨rfl, rfl⟩))
    (fun os started H enc _ => lifted os started H enc)

/-- The law, its table tied to the program's text. -/
theorem proved : Rows.BitsSetsCardSaid :=
  Claim7.holds_tied_plain_at .later [] [.data] true Rows.bitsSetsCard.stood.harness false
    row_holds (fun _ h => by cases h) (by kernel_rfl) (fun _ h => by cases h) bitsSets_row_tie rfl ⟨rfl, rfl⟩ (by kernel_rfl) rfl
    (fun f fn hf hfn => by
      obtain rfl : f = 6 := Option.some.inj ((show Tryd.prog.funcNamed "gristmill/gristmilllaw02.BitsSets" = some 6 by kernel_rfl).symm.trans hf) |>.symm
      obtain rfl : fn = Tryd.f6 := (Option.some.inj (Tryd.func6.symm.trans hfn)).symm
      exact ⟨by kernel_rfl, fun j t ht => by
        rw [Tryd.params6] at ht
        have hm : t ∈ [3, 22, 22] := by simpa using Array.mem_of_getElem? ht
        have hall : ([3, 22, 22].all fun u => !Tryd.prog.wantsStandIn u) = true := by kernel_rfl
        exact (show Tryd.prog.wantsStandIn t = false by simpa using List.all_eq_true.1 hall t hm)⟩)
    (by kernel_rfl)
#print axioms proved
end Go.Proofs.YtcgfheagbaafoaaDoor.bitsSets
