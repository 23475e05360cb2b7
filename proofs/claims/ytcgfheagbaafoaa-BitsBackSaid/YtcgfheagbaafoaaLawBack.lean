/-
  Proved: what is packed is unpacked as it was (the law BitsBack); no condition.
-/
import Derived.Test.YtcgfheagbaafoaaRows
import Derived.Test.YtcgfheagbaafoaaAwake2
import Derived.Test.YtcgfheagbaafoaaLawPacks
import Derived.Test.YtcgfheagbaafoaaBack
import Derived.Test.YtcgfheagbaafoaaOpen
import Derived.ProofKit
import Derived.OpenShut
import Derived.ShutString
import Derived.ChangeOld
namespace Go.Proofs.Ytcgfheagbaafoaa.bitsBack
set_option linter.unusedVariables false
set_option linter.unusedSimpArgs false
open Go.RowKit Go.Proofs.YtcgfheagbaafoaaW.PrintWords Go.Proofs.Ytcgfheagbaafoaa.Lib
open Go.ChangeShapes Go.WideShapes Go.ChangeAt
open Go.ChangeMaps (open_string shut_string)
theorem own : ownKnob Try.prog.godebug = none := by kernel_rfl
theorem laidOut : laidOutB Try.prog = true := by kernel_rfl
open Go.Proofs.Ytcgfheagbaafoaa.Pack Go.Proofs.Ytcgfheagbaafoaa.PackA Go.Proofs.Ytcgfheagbaafoaa.Sets
open Go.Proofs.Ytcgfheagbaafoaa.bitsPacks (i64_bd same_calls)

def absOf (n : Int) : Nat := if n < 0 then (-(n + 1)).toNat else n.toNat
theorem absOf_lt {n : Int} (h0 : -9223372036854775808 ≤ n) (h1 : n ≤ 9223372036854775807) : absOf n < 9223372036854775808 := by unfold absOf; split <;> omega
set_option maxRecDepth 100000 in
set_option maxHeartbeats 400000 in
theorem abs_calls (n : Int) (w : World) (h0 : -9223372036854775808 ≤ n) (h1 : n ≤ 9223372036854775807) :
    Calls Try.prog 14 #[.int .i64 n] w fun e w' => e = .returned (.int .i64 (absOf n : Nat)) ∧ w = w' := by
  by_cases h : n < 0
  · have HA := Aside0.mk (show ((absOf n : Nat) : Int) = -(n + 1) by unfold absOf; rw [if_pos h]; omega)
    go_enter Try.func14, Try.ntmps14
    go_wp2
    go_ret
    exact ⟨by rw [HA.out]; rfl, rfl⟩
  · have HA := Aside0.mk (show ((absOf n : Nat) : Int) = n by unfold absOf; rw [if_neg h]; omega)
    go_enter Try.func14, Try.ntmps14
    go_wp2
    go_ret
    exact ⟨by rw [HA.out]; rfl, rfl⟩
def small (n : Int) : Int := ((absOf n % 1048576 : Nat) : Int)
def smalls (l : List Int) : List Int := l.map small
def most : List Int → Int
  | [] => 0
  | x :: l => max x (most l)
/-- the greatest of those seen -/
def mostOf (l : List Int) : Int := l.foldl (fun a x => if a < x then x else a) 0
theorem foldl_ge : ∀ (l : List Int) (a : Int), a ≤ l.foldl (fun a x => if a < x then x else a) a ∧ ∀ x ∈ l, x ≤ l.foldl (fun a x => if a < x then x else a) a
  | [], a => ⟨by simp, by simp⟩
  | y :: l, a => by
    have h := foldl_ge l (if a < y then y else a)
    simp only [List.foldl_cons]
    refine ⟨?_, ?_⟩
    · have : a ≤ if a < y then y else a := by split <;> omega
      omega
    · intro x hx
      rcases List.mem_cons.1 hx with rfl | hx
      · have : x ≤ if a < x then x else a := by split <;> omega
        omega
      · exact h.2 x hx
theorem foldl_le : ∀ (l : List Int) (a b : Int), a ≤ b → (∀ x ∈ l, x ≤ b) → l.foldl (fun a x => if a < x then x else a) a ≤ b
  | [], a, b, h, _ => h
  | y :: l, a, b, h, hl => by
    simp only [List.foldl_cons]
    apply foldl_le l
    · have := hl y (by simp); split <;> omega
    · exact fun x hx => hl x (by simp [hx])
theorem mostOf_snoc (l : List Int) (x : Int) : mostOf (l ++ [x]) = if mostOf l < x then x else mostOf l := by
  unfold mostOf; rw [List.foldl_append]; rfl
theorem small_bd (n : Int) : 0 ≤ small n ∧ small n < 1048576 := by unfold small; omega
theorem smalls_bd (l : List Int) : ∀ x ∈ smalls l, 0 ≤ x ∧ x < 1048576 := by
  intro x hx
  simp only [smalls, List.mem_map] at hx
  obtain ⟨y, _, rfl⟩ := hx
  exact small_bd y
theorem mostOf_bd (l : List Int) : 0 ≤ mostOf (smalls l) ∧ mostOf (smalls l) < 1048576 := by
  refine ⟨(foldl_ge _ 0).1, ?_⟩
  have := foldl_le (smalls l) 0 1048575 (by omega) (fun x hx => by have := smalls_bd l x hx; omega)
  unfold mostOf; omega

set_option maxRecDepth 100000 in
set_option maxHeartbeats 1600000 in
theorem walk (l : List Int) (A : Option Addr) (m c : Nat) (more : Int) (w : World) (hC : Kd.C (Kd.int .i64) w A m l) (hl : ∀ x ∈ l, -9223372036854775808 ≤ x ∧ x ≤ 9223372036854775807) (hn0 : -9223372036854775808 ≤ more) (hn1 : more ≤ 9223372036854775807) :
    Calls Try.prog 4 #[.slice A m c, .int .i64 more] w fun e w' => e = .returned (.bool true) ∧ Below w.heap.size w w' := by
  have HC := Aside0.mk hC
  have HL := Aside0.mk hl
  have HLen := Aside0.mk (show l.length = m from hC.1)
  clear hC hl
  go_enter Try.func4, Try.ntmps4
  go_wp2_with fail
  refine (awake_calls w).mono ?_
  rintro e w1 ⟨rfl, hb1⟩
  have HB1 := Aside0.mk hb1
  clear hb1
  by_cases hm : m ≤ 5000
  case neg =>
    have hm2 : 5000 < m := by omega
    clear hm
    go_wp2_with fail
    go_ret
    exact ⟨rfl, HB1.out⟩
  case pos =>
    go_wp2_with fail
    go_loopw [6, 7, 8] (fun mv kv iv w' => ∃ (k : Nat), k ≤ m ∧ iv = .int .i64 k ∧ mv = .int .i64 (mostOf (smalls (l.take k))) ∧ Aside0 (Kd.R (Kd.int .i64) 3 w' w.heap.size (fun _ => True) kv (smalls (l.take k))) ∧ Aside0 (Below w.heap.size w w')) (fun _ _ iv _ => m - (intOf iv).toNat)
    case atStart => exact ⟨0, Nat.zero_le _, rfl, rfl, ⟨Kd.R_nil _ _ _ _ _⟩, HB1⟩
    case round =>
      obtain ⟨k, hk, rfl, rfl, HO, HB⟩ := hrel
      by_cases hlt : k < m
      · have HCw := Aside0.mk (Kd.C_below HC.out HB.out)
        obtain ⟨ad, e, hcell⟩ := Kd.at_int HCw.out k (by omega) (by omega)
        subst e
        simp only [Int.toNat_natCast, rd_nat] at hcell
        have hz := HL.out (l.getD k 0) (by rw [List.getD_eq_getElem?_getD, List.getElem?_eq_getElem (by have := HLen.out; omega)]; exact List.getElem_mem _)
        have HS := Aside0.mk (show smalls (l.take (k + 1)) = smalls (l.take k) ++ [small (l.getD k 0)] by rw [take_snoc l k (by have := HLen.out; omega)]; simp [smalls])
        have HM := Aside0.mk (show mostOf (smalls (l.take (k + 1))) = if mostOf (smalls (l.take k)) < small (l.getD k 0) then small (l.getD k 0) else mostOf (smalls (l.take k)) by rw [HS.out, mostOf_snoc])
        have hmb := mostOf_bd (l.take k)
        have hlen := Aside0.mk (show (smalls (l.take k)).length ≤ 5000 by simp [smalls]; omega)
        have hsb := small_bd (l.getD k 0)
        have hsm : small (l.getD k 0) = ((absOf (l.getD k 0) % 1048576 : Nat) : Int) := rfl
        generalize l.getD k 0 = z at *
        generalize mostOf (smalls (l.take k)) = mo at *
        have hab := absOf_lt hz.1 hz.2
        go_wp2_with fail
        refine (abs_calls z wr hz.1 hz.2).mono ?_
        rintro e w2 ⟨rfl, rfl⟩
        generalize absOf z = az at *
        have hmod : (az : Int).tmod 1048576 = small z := by rw [hsm, Int.tmod_eq_emod_of_nonneg (by omega)]; omega
        clear hsm
        generalize small z = sz at *
        by_cases hgt : mo < sz
        · rw [if_pos hgt] at HM
          go_wp2_with (first
            | ((with_reducible refine gate_builtin (b := .append) (xs := #[.tmp 33, .tmp 35]) rfl ?_); at_builtin; refine Kd.R_append (Kd.int .i64) (w0 := w) w.heap.size rfl (.tmp 33) (.tmp 35) 22 3 (.int .i64 0) 8 rfl Try.underlying22 info3s rfl (by decide) (by omega) (_) (smalls (l.take k)) (sz) [.int .i64 (sz)] (fun _ => True) (fun _ => False) rfl rfl rfl (fun _ hk => hk.elim) (fun _ _ => trivial) HO.out HB.out HB.out.size (by have := hlen.out; omega) ?_; intro v2 w2 ho2 hb2 hg2 ha2; have HO2 := Aside0.mk ho2; have HB2 := Aside0.mk hb2; clear ho2 hb2 hg2 ha2)
            | fail)
          go_roundw
          case rel => exact ⟨k + 1, by omega, by go_num, by rw [HM.out], ⟨by rw [HS.out]; exact HO2.out⟩, HB2⟩
          case measure => simp [intOf]; omega
        · rw [if_neg hgt] at HM
          go_wp2_with (first
            | ((with_reducible refine gate_builtin (b := .append) (xs := #[.tmp 33, .tmp 35]) rfl ?_); at_builtin; refine Kd.R_append (Kd.int .i64) (w0 := w) w.heap.size rfl (.tmp 33) (.tmp 35) 22 3 (.int .i64 0) 8 rfl Try.underlying22 info3s rfl (by decide) (by omega) (_) (smalls (l.take k)) (sz) [.int .i64 (sz)] (fun _ => True) (fun _ => False) rfl rfl rfl (fun _ hk => hk.elim) (fun _ _ => trivial) HO.out HB.out HB.out.size (by have := hlen.out; omega) ?_; intro v2 w2 ho2 hb2 hg2 ha2; have HO2 := Aside0.mk ho2; have HB2 := Aside0.mk hb2; clear ho2 hb2 hg2 ha2)
            | fail)
          go_roundw
          case rel => exact ⟨k + 1, by omega, by go_num, by rw [HM.out], ⟨by rw [HS.out]; exact HO2.out⟩, HB2⟩
          case measure => simp [intOf]; omega
      · have : k = m := by omega
        subst this
        have hmo := mostOf_bd (l.take k)
        have hge := (foldl_ge (smalls (l.take k)) 0).2
        have hleq := Aside0.mk (show l.take k = l by rw [← HLen.out, List.take_length])
        have hslen := Aside0.mk (show (smalls (l.take k)).length = k by rw [hleq.out]; simp [smalls, HLen.out])
        replace hge := Aside0.mk (show ∀ x ∈ smalls (l.take k), x ≤ mostOf (smalls (l.take k)) from hge)
        have hsb := Aside0.mk (smalls_bd (l.take k))
        generalize smalls (l.take k) = ks at *
        generalize mostOf ks = mo at *
        go_wp2_with fail
        refine (width_calls (mo + 1) wr (by omega) (by omega)).mono ?_
        rintro e w2 ⟨rfl, rfl⟩
        have hwd := widthOf_min (mo + 1) 20 (by omega) (by omega)
        have hfit : Aside0 (∀ x ∈ ks, 0 ≤ x ∧ x < ((2 ^ widthOf (mo + 1) : Nat) : Int)) := ⟨fun x hx => by
          have h1 := hge.out x hx
          have h2 := hsb.out x hx
          exact ⟨h2.1, widthOf_fits _ _ (by omega) h2.1 (by omega)⟩⟩
        generalize widthOf (mo + 1) = wd at *
        go_wp2_with fail
        refine (abs_calls more wr hn0 hn1).mono ?_
        rintro e w2 ⟨rfl, rfl⟩
        have hab := absOf_lt hn0 hn1
        generalize absOf more = am at *
        have hmod : (am : Int).tmod 5 = ((am % 5 : Nat) : Int) := by rw [Int.tmod_eq_emod_of_nonneg (by omega)]; omega
        have hm5 : am % 5 < 5 := Nat.mod_lt _ (by decide)
        generalize am % 5 = ex at *
        obtain ⟨wt, hwt⟩ : ∃ wt, wt = wd + ex := ⟨_, rfl⟩
        have hsum : (wd : Int) + (ex : Int) = (wt : Int) := by omega
        have hw25 : wt ≤ 24 := by omega
        have HF : Aside0 (∀ x ∈ ks, 0 ≤ x ∧ x < ((2 ^ wt : Nat) : Int)) := ⟨fun x hx => by
          have h1 := hfit.out x hx
          have h2 : 2 ^ wd ≤ 2 ^ wt := Nat.pow_le_pow_right (by decide) (by omega)
          omega⟩
        clear hfit hwt
        obtain ⟨A2, c2, rfl, -, hC2⟩ := Kd.R_reads HO.out
        rw [hslen.out] at hC2 ⊢
        have HC2 := Aside0.mk hC2
        clear hC2 hmo HO
        go_wp2_with fail
        refine (pack_calls ks A2 k c2 wt wr HC2.out hm (by omega) (fun x hx => by have := hsb.out x hx; omega)).mono ?_
        rintro e w3 ⟨v3, code, xs, rfl, ho, hb, hcase⟩
        obtain ⟨rfl, rfl⟩ : code = 0 ∧ xs = packed ks wt := by
          rcases hcase with ⟨_, h1, h2⟩ | ⟨h, _, _⟩
          · exact ⟨h1, h2⟩
          · exact absurd (fun q hq => HF.out _ (by rw [List.getD_eq_getElem?_getD, List.getElem?_eq_getElem (by rw [hslen.out]; exact hq)]; exact List.getElem_mem _)) h
        clear hcase
        have HO3 := Aside0.mk ho
        have HB3 := Aside0.mk (below_then HB.out HB.out.size hb)
        have HC3 := Aside0.mk (Kd.C_below HC2.out hb)
        obtain ⟨A3, c3, rfl, hc3, hD3⟩ := Kd.R_reads ho
        have hlp := packed_length ks wt
        rw [hslen.out] at hlp
        rw [hlp] at hD3 hc3 ⊢
        have HD3 := Aside0.mk hD3
        have hwk : wt * k ≤ 120000 := Nat.le_trans (Nat.mul_le_mul hw25 hm) (by decide)
        have hwki : (wt : Int) * (k : Int) = ((wt * k : Nat) : Int) := by simp
        clear ho hb hD3 HB HC2 hlp
        go_wp2_with fail
        refine (unpack_calls (packed ks wt) A3 _ c3 wt k w3 HD3.out (packed_bytes ks wt) hm (by omega) true ⟨fun _ => ⟨rfl, by have := packed_tidy ks wt; rw [hslen.out] at this; exact this⟩, fun _ => rfl⟩).mono ?_
        rintro e w4 ⟨v4, rfl, ho, hb⟩
        rw [if_pos rfl] at ho
        have HBk := Aside0.mk (back ks wt HF.out)
        rw [hslen.out] at HBk
        rw [HBk.out] at ho
        obtain ⟨A4, c4, rfl, -, hC4⟩ := Kd.R_reads ho
        rw [hslen.out] at hC4 ⊢
        have HC4 := Aside0.mk hC4
        have HB4 := Aside0.mk (below_then HB3.out HB3.out.size hb)
        have HC5 := Aside0.mk (Kd.C_below HC3.out hb)
        clear ho hb hC4 HB3 HD3 HC3 HO3
        simp only [if_true]
        go_wp2_with fail
        refine (same_calls ks A4 A2 _ _ c4 c2 w4 HC4.out HC5.out).mono ?_
        rintro e w6 ⟨rfl, hd⟩
        have HB6 := Aside0.mk (below_then HB4.out HB4.out.size hd.below)
        clear hd
        obtain ⟨tot, htot⟩ : ∃ tot, tot = wt * k := ⟨_, rfl⟩
        rw [← htot] at hwk hwki ⊢
        have hlg : (((long tot : Nat) : Int) == ((tot : Int) + 7) / 8) = true := by rw [beq_iff_eq]; unfold long; omega
        clear htot
        go_wp2_with fail
        go_ret
        exact ⟨rfl, HB6.out⟩

set_option maxRecDepth 100000 in
theorem lifted (os : Os) (started : os.Started) (H : Type) (enc : TypeId × Value → H) :
    ReturnsInHanded {} Try.checked os 4 .any (Rows.bitsBackSpec.pre6 enc Try.prog Try.f4 Rows.bitsBackRow.domain false) (Rows.bitsBackSpec.post enc Try.prog Try.f4 false true false false) := by
  refine returnsInHanded_of_change (C := Try.checked) own started (by kernel_rfl) Try.func4
    (ChangeSpec.witness6 (enc := enc) (C := Try.checked) false ⟨#[], #[.slice none 0 0, .int .i64 0], []⟩ 8 (by kernel_rfl) (by kernel_rfl) (by kernel_rfl) (by kernel_rfl)) ?_
  intro W base args ds gs before hval0 hW hcnd _
  have hval : ∀ (j : Nat) t v, Try.f4.params[j]? = some t → args[j]? = some v → Value.okWide Try.prog W .any base t v := hval0
  have hW' := hW
  obtain ⟨p, q, hA0, hV, rfl, hfz, hnd⟩ := hW
  have hA : DataW.TrodAll enc Try.prog W 0 (fun _ => true) true Try.f4.params.toList args.toList ds p := hA0
  rw [Try.params4] at hA hval
  obtain ⟨v0, vs0, d0, ds0, p0, q0, hargs, rfl, rfl, h0, r0⟩ := trodAll_cons hA
  obtain ⟨v1, vs1, d1, ds1, p1, q1, rfl, rfl, rfl, h1, r1⟩ := trodAll_cons r0
  obtain ⟨rfl, rfl, rfl⟩ := trodAll_nil r1
  obtain rfl : args = #[v0, v1] := by cases args; simp_all
  obtain ⟨rfl, rfl⟩ := trodVars_none hV
  have k0 := h0
  have lt0 : ∀ x ∈ p0, x.block < W.heap.size := by obtain ⟨m, hm⟩ := k0; exact DataW.trod_lt m _ _ _ hm
  obtain ⟨a0, len0, cap0, rfl⟩ := okWide_slice Try.underlying22 (hval 0 22 v0 rfl rfl)
  obtain ⟨xs0, hl0, hm0, hC0, hb0⟩ := open_nums Try.underlying22 Try.underlying3 (by kernel_rfl) h0
  have k1 := h1
  have lt1 : ∀ x ∈ p1, x.block < W.heap.size := by obtain ⟨m, hm⟩ := k1; exact DataW.trod_lt m _ _ _ hm
  obtain ⟨a1, rfl, _, _, w1⟩ := open_int Try.underlying3 (hval 1 3 v1 rfl rfl) h1
  clear hA0 hval0
  refine (walk xs0 a0 _ _ a1 W hC0 (fun x hx => i64_bd (hb0 x hx)) (i64_bd w1).1 (i64_bd w1).2).mono fun e W' ⟨he, bel⟩ => ?_
  subst he
  exact ⟨_, rfl, _, _, _, [], _, [], hW', trodAll_mk1 (shut_bool Try.underlying4 _), (trodAll_cons_mk (Below.trod laidOut (by kernel_rfl) (of_decide_eq_true (by kernel_rfl)) k0 bel lt0) (trodAll_cons_mk (Below.trod laidOut (by kernel_rfl) (of_decide_eq_true (by kernel_rfl)) k1 bel lt1) trodAll_mk0)), rfl, bel.frame _, fun h => by cases h⟩

/-- The law. -/
theorem proved : Rows.BitsBackSaid :=
  OpenClaim.holds_of_wide 4 Try.f4 rfl rfl rfl rfl rfl rfl rfl ⟨rfl, rfl, rfl, rfl, rfl⟩ rfl rfl rfl rfl rfl (by kernel_rfl) Try.func4 (by kernel_rfl)
    (of_decide_eq_true (by kernel_rfl)) (by unfold Func.isWrapper; first | (rw [if_pos (by decide +kernel)]; kernel_rfl) | (rw [if_neg (by decide +kernel)]; exact ⟨rfl, rfl⟩))
    (fun os started H enc _ => lifted os started H enc)
#print axioms proved
end Go.Proofs.Ytcgfheagbaafoaa.bitsBack
