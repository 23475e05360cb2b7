/- Texts of this repo, joined, without what this claim does not use: FSym1, FSym2, FSym3, FBlk, FStab2, FSortK, FExtBag, P19, P2, FExtLong, P4, FExtAwake, FExtBagAll, FExtJoin, P34, P35, FExtSame. -/
import Derived.Test.YtfeeahjaeapkoaaDFactBags1
import Derived.Test.YtfeeahjaeapkoaaDFactBags2
import Derived.Test.YtfeeahjaeapkoaaDFactBags3
import Derived.Test.YtfeeahjaeapkoaaDFactBags4
section
namespace Go.Proofs.Ytfeeahjaeapkoaa.Ext
set_option linter.unusedVariables false
set_option linter.unusedSimpArgs false
open Go.RowKit Go.Proofs.YtfeeahjaeapkoaaW.PrintWords Go.Proofs.YtfeeahjaeapkoaaW.PrintLast Go.Proofs.YtfeeahjaeapkoaaW.PrintMore Go.Proofs.Ytfeeahjaeapkoaa.Lib
inductive RelA (cf : Q → Q → Int) (w : World) (base : Nat) (ok : Nat → Prop) (g n c : Nat) (xs : List Q) (lo hi p : Nat) (v1 v2 : Value) (w' : World) : Prop
  | mk (i j : Nat) (e1 : v1 = .int .i64 i) (e2 : v2 = .int .i64 j) (h1 : lo ≤ i) (h2 : i ≤ j) (h3 : j ≤ hi) (hl : lo < i → cf (at_ xs (i - 1)) (at_ xs p) < 0) (hr : j < hi → ¬ cf (at_ xs j) (at_ xs p) < 0) (hrs : RS w w' base ok g n c xs xs)
inductive RelA2 (cf : Q → Q → Int) (w : World) (base : Nat) (ok : Nat → Prop) (g n c : Nat) (xs : List Q) (lo hi p : Nat) (v1 v2 : Value) (w' : World) : Prop
  | mk (i j : Nat) (e1 : v1 = .int .i64 i) (e2 : v2 = .int .i64 j) (h1 : lo ≤ i) (h2 : i ≤ j) (h3 : j ≤ hi) (hl : lo < i → ¬ cf (at_ xs p) (at_ xs (i - 1)) < 0) (hr : j < hi → cf (at_ xs p) (at_ xs j) < 0) (hrs : RS w w' base ok g n c xs xs)
inductive RelA3 (cf : Q → Q → Int) (w : World) (base : Nat) (ok : Nat → Prop) (g n c : Nat) (xs : List Q) (lo hi p : Nat) (v1 v2 : Value) (w' : World) : Prop
  | mk (i j : Nat) (e1 : v1 = .int .i64 i) (e2 : v2 = .int .i64 j) (h1 : lo ≤ i) (h2 : i ≤ j) (h3 : j ≤ hi) (hl : lo < i → ¬ cf (at_ xs (p - (i - 1))) (at_ xs (i - 1)) < 0) (hr : j < hi → cf (at_ xs (p - j)) (at_ xs j) < 0) (hrs : RS w w' base ok g n c xs xs)
inductive RelB (w : World) (base : Nat) (ok : Nat → Prop) (g n c : Nat) (xs : List Q) (a hi : Nat) (v : Value) (w' : World) : Prop
  | mk (k : Nat) (ys : List Q) (e : v = .int .i64 k) (h1 : a ≤ k) (h2 : k ≤ hi) (hrs : RS w w' base ok g n c xs ys) (hy : at_ ys = rotF a (a + 1) (k + 1) (at_ xs))
inductive RelB2 (w : World) (base : Nat) (ok : Nat → Prop) (g n c : Nat) (xs : List Q) (lo m : Nat) (v : Value) (w' : World) : Prop
  | mk (k : Nat) (ys : List Q) (e : v = .int .i64 k) (h1 : lo ≤ k) (h2 : k ≤ m) (hrs : RS w w' base ok g n c xs ys) (hy : at_ ys = rotF k m (m + 1) (at_ xs))
set_option maxRecDepth 100000 in
set_option maxHeartbeats 3200000 in
theorem sym1_calls (cf : Q → Q → Int) (hp : Pre cf) (f : FuncId) (fn : Func) (hf : Try.prog.funcs[f]? = some fn) (hname : (fn.name == "runtime.NumGoroutine") = false) (hbody : fn.body.isSome = true) (g c n : Nat) (base : Nat) (ok : Nat → Prop) (hn : n ≤ 1152921504606846976) (a m b : Nat) (xs : List Q) (w : World)
    (hrow : kq.R 40 w base ok (.slice (some ⟨g, 0, none⟩) n c) xs) (hcmp : CmpOk f cf w g xs) (h1 : SrtOn cf (at_ xs) a m) (h2 : SrtOn cf (at_ xs) m b) (hm : m = a + 1) (hmb : m < b) (hb : b ≤ n) :
    Calls Try.prog 58 #[.slice (some ⟨g, 0, none⟩) n c, .int .i64 a, .int .i64 m, .int .i64 b, .func (.func f) #[] #[]] w fun e w' => e = .returned (.tuple #[]) ∧ ∃ ys, RS w w' base ok g n c xs ys ∧ In a b (at_ xs) (at_ ys) ∧ SrtOn cf (at_ ys) a b := by
  have HF := Aside0.mk hf
  have HNm := Aside0.mk hname
  have HBd := Aside0.mk hbody
  have HCmp := Aside0.mk hcmp
  have HP := Aside0.mk hp
  have H1 := Aside0.mk h1
  have H2 := Aside0.mk h2
  have HR := Aside0.mk (RS.refl hrow)
  clear hf hname hbody hcmp hrow hp h1 h2
  have t1 : (m : Int) - (a : Int) = 1 := by omega
  have HM := Aside0.mk hm
  have HMa := Aside0.mk (show a < m ∧ a < n by omega)
  clear hm
  go_enter Try.func58, Try.ntmps58
  go_wp2_with fail
  go_loopw [10, 11] (fun v10 v11 w' => RelA cf w base ok g n c xs m b a v10 v11 w') (fun v10 v11 _ => (intOf v11).toNat - (intOf v10).toNat)
  case atStart => exact .mk m b rfl rfl (Nat.le_refl _) (by omega) (Nat.le_refl _) (fun h => absurd h (Nat.lt_irrefl _)) (fun h => absurd h (Nat.lt_irrefl _)) HR.out
  case round =>
    clear HR
    obtain ⟨i, j, rfl, rfl, hi, hij, hj, hI, hJ, hR⟩ := hrel
    have HI := Aside0.mk hI
    have HJ := Aside0.mk hJ
    have HR := Aside0.mk hR
    clear hI hJ hR
    by_cases hlt : i < j
    · obtain ⟨h, hh⟩ : ∃ h, h = (i + j) / 2 := ⟨_, rfl⟩
      have HX := Aside0.mk (show i ≤ h ∧ h < j ∧ (i : Int) < (j : Int) ∧ ((i : Int) + (j : Int)) / 2 = (h : Int) ∧ (h : Int) < (n : Int) ∧ (a : Int) < (n : Int) ∧ h < 9223372036854775808 by have := HMa.out; omega)
      have hal := HMa.out
      obtain ⟨d0, d1, d2, d3⟩ := kq_get HR.out.row h (by omega)
      simp only [encSL] at d1 d2
      obtain ⟨c0, c1, c2, c3⟩ := kq_get HR.out.row a (by omega)
      simp only [encSL] at c1 c2
      have hm1 : at_ xs h ∈ xs := (by have hl := HR.out.len; show xs.getD h zQ ∈ xs; rw [List.getD_eq_getElem?_getD, List.getElem?_eq_getElem (by omega)]; exact List.getElem_mem _)
      have hm0 : at_ xs a ∈ xs := (by have hl := HR.out.len; show xs.getD a zQ ∈ xs; rw [List.getD_eq_getElem?_getD, List.getElem?_eq_getElem (by omega)]; exact List.getElem_mem _)
      have HC := Aside0.mk (fun w' (h : w.grownBy w' (some g)) => HCmp.out w' h _ hm1 _ hm0)
      have HPP := Aside0.mk (show at_ xs h = xs.getD h zQ ∧ at_ xs a = xs.getD a zQ from ⟨rfl, rfl⟩)
      generalize hp1 : xs.getD h zQ = p at *
      generalize hq1 : xs.getD a zQ = q at *
      have HPq := Aside0.mk (show at_ xs h = p ∧ at_ xs a = q from ⟨hp1, hq1⟩)
      rw [HPq.out.1, HPq.out.2] at HC
      clear hp1 hq1 hm1 hm0 HPP hlt hh hal
      have hij2 := HX.out.2.2.1
      have hhi := HX.out.2.2.2.1
      have hhn := HX.out.2.2.2.2.1
      have han := HX.out.2.2.2.2.2.1
      have hwu : IntKind.u64.wrap ((i : Int) + (j : Int)) = (i : Int) + (j : Int) := wraps_u64 _ (by omega) (by omega)
      have hwh : wrap64 (h : Int) = (h : Int) := w64 rfl HX.out.2.2.2.2.2.2
      go_wp2_with fail
      refine start_ (n := 11) (S := fun w' => w'.cell? ⟨g, h * 4, none⟩ = some (.int .i64 p.1) ∧ w'.cell? ⟨g, h * 4 + 1, none⟩ = some (.slice p.2.1.1 p.2.1.2.1 p.2.1.2.2) ∧ w'.cell? ⟨g, h * 4 + 2, none⟩ = some (.slice p.2.2.1.1 p.2.2.1.2.1 p.2.2.1.2.2) ∧ w'.cell? ⟨g, h * 4 + 3, none⟩ = some (.int .u64 p.2.2.2) ∧ w'.cell? ⟨g, a * 4, none⟩ = some (.int .i64 q.1) ∧ w'.cell? ⟨g, a * 4 + 1, none⟩ = some (.slice q.2.1.1 q.2.1.2.1 q.2.1.2.2) ∧ w'.cell? ⟨g, a * 4 + 2, none⟩ = some (.slice q.2.2.1.1 q.2.2.1.2.1 q.2.2.1.2.2) ∧ w'.cell? ⟨g, a * 4 + 3, none⟩ = some (.int .u64 q.2.2.2)) (ds := []) #[false, false, false, false, false, false, false, false, false, false, false] (by kernel_rfl) rfl rfl ⟨d0, d1, d2, d3, c0, c1, c2, c3⟩ (fun hHeld => ?_)
      refine pure_ (i := 0) (N := some 40) (v := ?_) (a' := ?_) #[true, false, false, false, false, false, false, false, false, false, false] rfl rfl (by kernel_rfl) (fun _ _ _ h => h) (Or.inl ⟨by rfl, ?_⟩) ?_ ?_
      rotate_left
      · intro w'
        go_simp
        with_reducible rfl
      rotate_left
      · simp only [Act.put, List.setIfInBounds_toArray, List.set_cons_zero, List.set_cons_succ, i64_w, i32_w]
        rfl
      refine pure_ (i := 1) (N := some 41) (v := ?_) (a' := ?_) #[true, true, false, false, false, false, false, false, false, false, false] rfl rfl (by kernel_rfl) (fun _ _ _ h => h) (Or.inl ⟨by rfl, ?_⟩) ?_ ?_
      rotate_left
      · intro w'
        go_simp
        with_reducible rfl
      rotate_left
      · simp only [Act.put, List.setIfInBounds_toArray, List.set_cons_zero, List.set_cons_succ, i64_w, i32_w]
        rfl
      refine pure_ (i := 2) (N := some 42) (v := ?_) (a' := ?_) #[true, true, true, false, false, false, false, false, false, false, false] rfl rfl (by kernel_rfl) (fun _ _ _ h => h) (Or.inl ⟨by rfl, ?_⟩) ?_ ?_
      rotate_left
      · intro w'
        go_simp
        with_reducible rfl
      rotate_left
      · simp only [Act.put, List.setIfInBounds_toArray, List.set_cons_zero, List.set_cons_succ, i64_w, i32_w]
        rfl
      refine pure_ (i := 3) (N := some 43) (v := ?_) (a' := ?_) #[true, true, true, true, false, false, false, false, false, false, false] rfl rfl (by kernel_rfl) (fun _ _ _ h => h) (Or.inl ⟨by rfl, ?_⟩) ?_ ?_
      rotate_left
      · intro w'
        go_simp
        with_reducible rfl
      rotate_left
      · simp only [Act.put, List.setIfInBounds_toArray, List.set_cons_zero, List.set_cons_succ, i64_w, i32_w]
        rfl
      refine pure_ (i := 5) (N := some 45) (v := ?_) (a' := ?_) #[true, true, true, true, false, true, false, false, false, false, false] rfl rfl (by kernel_rfl) (fun _ _ _ h => h) (Or.inl ⟨by rfl, ?_⟩) ?_ ?_
      rotate_left
      · intro w'
        go_simp
        with_reducible rfl
      rotate_left
      · simp only [Act.put, List.setIfInBounds_toArray, List.set_cons_zero, List.set_cons_succ, i64_w, i32_w]
        rfl
      refine pure_ (i := 6) (N := some 46) (v := ?_) (a' := ?_) #[true, true, true, true, false, true, true, false, false, false, false] rfl rfl (by kernel_rfl) (fun _ _ _ h => h) (Or.inl ⟨by rfl, ?_⟩) ?_ ?_
      rotate_left
      · intro w'
        go_simp
        with_reducible rfl
      rotate_left
      · simp only [Act.put, List.setIfInBounds_toArray, List.set_cons_zero, List.set_cons_succ, i64_w, i32_w]
        rfl
      refine pure_ (i := 7) (N := some 47) (v := ?_) (a' := ?_) #[true, true, true, true, false, true, true, true, false, false, false] rfl rfl (by kernel_rfl) (fun _ _ _ h => h) (Or.inl ⟨by rfl, ?_⟩) ?_ ?_
      rotate_left
      · intro w'
        go_simp
        with_reducible rfl
      rotate_left
      · simp only [Act.put, List.setIfInBounds_toArray, List.set_cons_zero, List.set_cons_succ, i64_w, i32_w]
        rfl
      refine take_ (i := 4) (N := some 44) (v := ?_) (a' := ?_) #[true, true, true, true, true, true, true, true, false, false, false] rfl rfl (by kernel_rfl) (fun _ _ _ h => h) (Or.inl ⟨by rfl, ?_⟩) hHeld ?_ ?_
      rotate_left
      · rintro w' ⟨s0, s1, s2, s3, s4, s5, s6, s7⟩
        go_simp
        with_reducible rfl
      rotate_left
      · simp only [Act.put, List.setIfInBounds_toArray, List.set_cons_zero, List.set_cons_succ, i64_w, i32_w]
        rfl
      refine take_ (i := 8) (N := some 48) (v := ?_) (a' := ?_) #[true, true, true, true, true, true, true, true, true, false, false] rfl rfl (by kernel_rfl) (fun _ _ _ h => h) (Or.inl ⟨by rfl, ?_⟩) hHeld ?_ ?_
      rotate_left
      · rintro w' ⟨s0, s1, s2, s3, s4, s5, s6, s7⟩
        go_simp
        with_reducible rfl
      rotate_left
      · simp only [Act.put, List.setIfInBounds_toArray, List.set_cons_zero, List.set_cons_succ, i64_w, i32_w]
        rfl
      refine one_ (i := 9) (N := some 49) #[true, true, true, true, true, true, true, true, true, true, false] rfl rfl (by kernel_rfl) (by decide) (fun K hK => ?_)
      refine goesv_ HF.out HNm.out HBd.out (#[.agg #[.int .i64 p.1, .slice p.2.1.1 p.2.1.2.1 p.2.1.2.2, .slice p.2.2.1.1 p.2.2.1.2.1 p.2.2.1.2.2, .int .u64 p.2.2.2], .agg #[.int .i64 q.1, .slice q.2.1.1 q.2.1.2.1 q.2.1.2.2, .slice q.2.2.1.1 q.2.2.1.2.1 q.2.2.1.2.2, .int .u64 q.2.2.2]]) (by rfl) rfl rfl rfl (by simp only [List.map_toArray, List.map_cons, List.map_nil]; rfl) ?_
      with_reducible refine (HC.out _ (grown_drew HR.out.grown)).mono ?_
      rintro e w3 ⟨rfl, hb⟩
      refine ⟨_, rfl, ?_⟩
      have hbx := Aside0.mk (below_then (below_drew (Below.refl _ _)) (Nat.le_refl _) hb)
      have HR3 := Aside0.mk (HR.out.below hbx.out)
      clear hb
      refine hK.out _ _ ⟨(pw_cell_below hbx.out d0), (pw_cell_below hbx.out d1), (pw_cell_below hbx.out d2), (pw_cell_below hbx.out d3), (pw_cell_below hbx.out c0), (pw_cell_below hbx.out c1), (pw_cell_below hbx.out c2), (pw_cell_below hbx.out c3)⟩ (fun hHeld => ?_)
      clear hK K
      refine norm_ (a' := ?_) ?_ ?_
      rotate_left
      · show Act.put _ (some 49) _ = _
        simp only [Act.put, List.setIfInBounds_toArray, List.set_cons_zero, List.set_cons_succ, i64_w, i32_w]
        rfl
      refine pure_ (i := 10) (N := some 50) (v := ?_) (a' := ?_) #[true, true, true, true, true, true, true, true, true, true, true] rfl rfl (by kernel_rfl) (fun _ _ _ h => h) (Or.inl ⟨by rfl, ?_⟩) ?_ ?_
      rotate_left
      · intro w'
        go_simp
        with_reducible rfl
      rotate_left
      · simp only [Act.put, List.setIfInBounds_toArray, List.set_cons_zero, List.set_cons_succ, i64_w, i32_w]
        rfl
      refine done_ (by kernel_rfl) ?_
      clear hHeld d0 d1 d2 d3 c0 c1 c2 c3 HR HC hbx
      by_cases hc : cf p q < 0
      · have hcd : decide (cf p q < 0) = true := decide_eq_true hc
        have HCq := Aside0.mk hc
        clear hc
        rw [hcd]
        go_wp2_with fail
        go_roundw
        case rel => exact .mk (h + 1) j (by clear hwu hwh; go_num) rfl (by have := HX.out; clear hwu hwh; omega) (by have := HX.out; clear hwu hwh; omega) hj (fun _ => by rw [Nat.add_sub_cancel, HPq.out.1, HPq.out.2]; exact HCq.out) (fun h => Int.not_lt.2 (HJ.out h)) HR3.out
        case measure => have := HX.out; clear hwu hwh; simp [intOf]; omega
      · have hcd : decide (cf p q < 0) = false := decide_eq_false hc
        have HCq := Aside0.mk hc
        clear hc
        rw [hcd]
        go_wp2_with fail
        go_roundw
        case rel => exact .mk i h rfl rfl hi (by have := HX.out; clear hwu hwh; omega) (by have := HX.out; clear hwu hwh; omega) HI.out (fun _ => by rw [HPq.out.1, HPq.out.2]; exact HCq.out) HR3.out
        case measure => have := HX.out; clear hwu hwh; simp [intOf]; omega
    · obtain rfl : i = j := by omega
      have t3 : decide (i < i) = false := decide_eq_false (by omega)
      clear hlt
      have HIb := Aside0.mk (show m ≤ i ∧ i ≤ b ∧ m = a + 1 from ⟨hi, hj, HM.out⟩)
      have hw1 : wrap64 ((i : Int) - 1) = ((i - 1 : Nat) : Int) := w64 (by have := HM.out; omega) (by have := HM.out; omega)
      go_wp2_with fail
      go_loopw [13] (fun v13 w' => RelB w base ok g n c xs a (i - 1) v13 w') (fun v13 _ => i - (intOf v13).toNat)
      case atStart => exact .mk a xs rfl (Nat.le_refl _) (by have := HM.out; clear hw1; omega) HR.out (rot_none2 a (a + 1) _).symm
      case round =>
        clear HR
        obtain ⟨k, ys, rfl, hak, hki, hR, hS⟩ := hrel
        have HR := Aside0.mk hR
        have HS := Aside0.mk hS
        clear hR hS
        by_cases hk : k < i - 1
        · obtain ⟨y, hy⟩ : ∃ y, y = k + 1 := ⟨_, rfl⟩
          have HKb := Aside0.mk (show y = k + 1 ∧ y < i ∧ (k : Int) < (i : Int) - 1 ∧ (k : Int) + 1 = (y : Int) ∧ y < 9223372036854775808 ∧ (k : Int) < (n : Int) ∧ (y : Int) < (n : Int) ∧ ¬ k = y ∧ ¬ y = k by have := HM.out; clear hw1; omega)
          obtain ⟨d0, d1, d2, d3⟩ := kq_get HR.out.row k (by omega)
          simp only [encSL] at d1 d2
          obtain ⟨c0, c1, c2, c3⟩ := kq_get HR.out.row y (by omega)
          simp only [encSL] at c1 c2
          have HSw := Aside0.mk (RS.swap2 HR.out k y (by omega) (by omega) (by omega) _ _ rfl rfl)
          have HS2 := Aside0.mk (show swapF k y 1 (at_ ys) = rotF a (a + 1) (k + 1 + 1) (at_ xs) by rw [HS.out, hy]; exact rot_right a k _ hak)
          obtain ⟨cs3, hcs3⟩ := Kd.R_typed HR.out.row g rfl
          have hfz : ∀ o, wr.frozen? ⟨g, o, none⟩ = false := fun o => blk_frozen hcs3 o
          generalize hp1 : ys.getD k zQ = p at *
          generalize hq1 : ys.getD y zQ = q at *
          clear hp1 hq1
          have hkn := HKb.out.2.2.2.2.2.1
          have hyn := HKb.out.2.2.2.2.2.2.1
          have hxy := HKb.out.2.2.2.2.2.2.2.1
          have hyx := HKb.out.2.2.2.2.2.2.2.2
          have hki2 := HKb.out.2.2.1
          have hki3 : decide ((k : Int) < (i : Int) - 1) = true := decide_eq_true hki2
          have HAk := Aside0.mk hak
          clear hy hk hak hki
          have hwy : wrap64 ((k : Int) + 1) = (y : Int) := w64 HKb.out.2.2.2.1 HKb.out.2.2.2.2.1
          go_wp2_with fail
          refine start_ (n := 18) (S := fun w' => w'.cell? ⟨g, y * 4, none⟩ = some (.int .i64 q.1) ∧ w'.cell? ⟨g, y * 4 + 1, none⟩ = some (.slice q.2.1.1 q.2.1.2.1 q.2.1.2.2) ∧ w'.cell? ⟨g, y * 4 + 2, none⟩ = some (.slice q.2.2.1.1 q.2.2.1.2.1 q.2.2.1.2.2) ∧ w'.cell? ⟨g, y * 4 + 3, none⟩ = some (.int .u64 q.2.2.2) ∧ w'.cell? ⟨g, k * 4, none⟩ = some (.int .i64 p.1) ∧ w'.cell? ⟨g, k * 4 + 1, none⟩ = some (.slice p.2.1.1 p.2.1.2.1 p.2.1.2.2) ∧ w'.cell? ⟨g, k * 4 + 2, none⟩ = some (.slice p.2.2.1.1 p.2.2.1.2.1 p.2.2.1.2.2) ∧ w'.cell? ⟨g, k * 4 + 3, none⟩ = some (.int .u64 p.2.2.2) ∧ ∀ o, w'.frozen? ⟨g, o, none⟩ = false) (ds := [15, 17]) #[false, false, false, false, false, false, false, false, false, false, false, false, false, false, false, false, false, false] (by kernel_rfl) rfl rfl ⟨c0, c1, c2, c3, d0, d1, d2, d3, hfz⟩ (fun hHeld => ?_)
          refine pure_ (i := 0) (N := some 61) (v := ?_) (a' := ?_) #[true, false, false, false, false, false, false, false, false, false, false, false, false, false, false, false, false, false] rfl rfl (by kernel_rfl) (fun _ _ _ h => h) (Or.inl ⟨by rfl, ?_⟩) ?_ ?_
          rotate_left
          · intro w'
            go_simp
            with_reducible rfl
          rotate_left
          · simp only [Act.put, List.setIfInBounds_toArray, List.set_cons_zero, List.set_cons_succ, i64_w, i32_w]
            rfl
          refine pure_ (i := 1) (N := some 62) (v := ?_) (a' := ?_) #[true, true, false, false, false, false, false, false, false, false, false, false, false, false, false, false, false, false] rfl rfl (by kernel_rfl) (fun _ _ _ h => h) (Or.inl ⟨by rfl, ?_⟩) ?_ ?_
          rotate_left
          · intro w'
            go_simp
            with_reducible rfl
          rotate_left
          · simp only [Act.put, List.setIfInBounds_toArray, List.set_cons_zero, List.set_cons_succ, i64_w, i32_w]
            rfl
          refine pure_ (i := 2) (N := some 63) (v := ?_) (a' := ?_) #[true, true, true, false, false, false, false, false, false, false, false, false, false, false, false, false, false, false] rfl rfl (by kernel_rfl) (fun _ _ _ h => h) (Or.inl ⟨by rfl, ?_⟩) ?_ ?_
          rotate_left
          · intro w'
            go_simp
            with_reducible rfl
          rotate_left
          · simp only [Act.put, List.setIfInBounds_toArray, List.set_cons_zero, List.set_cons_succ, i64_w, i32_w]
            rfl
          refine pure_ (i := 3) (N := some 64) (v := ?_) (a' := ?_) #[true, true, true, true, false, false, false, false, false, false, false, false, false, false, false, false, false, false] rfl rfl (by kernel_rfl) (fun _ _ _ h => h) (Or.inl ⟨by rfl, ?_⟩) ?_ ?_
          rotate_left
          · intro w'
            go_simp
            with_reducible rfl
          rotate_left
          · simp only [Act.put, List.setIfInBounds_toArray, List.set_cons_zero, List.set_cons_succ, i64_w, i32_w]
            rfl
          refine pure_ (i := 4) (N := some 65) (v := ?_) (a' := ?_) #[true, true, true, true, true, false, false, false, false, false, false, false, false, false, false, false, false, false] rfl rfl (by kernel_rfl) (fun _ _ _ h => h) (Or.inl ⟨by rfl, ?_⟩) ?_ ?_
          rotate_left
          · intro w'
            go_simp
            with_reducible rfl
          rotate_left
          · simp only [Act.put, List.setIfInBounds_toArray, List.set_cons_zero, List.set_cons_succ, i64_w, i32_w]
            rfl
          refine pure_ (i := 5) (N := some 66) (v := ?_) (a' := ?_) #[true, true, true, true, true, true, false, false, false, false, false, false, false, false, false, false, false, false] rfl rfl (by kernel_rfl) (fun _ _ _ h => h) (Or.inl ⟨by rfl, ?_⟩) ?_ ?_
          rotate_left
          · intro w'
            go_simp
            with_reducible rfl
          rotate_left
          · simp only [Act.put, List.setIfInBounds_toArray, List.set_cons_zero, List.set_cons_succ, i64_w, i32_w]
            rfl
          refine pure_ (i := 6) (N := some 67) (v := ?_) (a' := ?_) #[true, true, true, true, true, true, true, false, false, false, false, false, false, false, false, false, false, false] rfl rfl (by kernel_rfl) (fun _ _ _ h => h) (Or.inl ⟨by rfl, ?_⟩) ?_ ?_
          rotate_left
          · intro w'
            go_simp
            with_reducible rfl
          rotate_left
          · simp only [Act.put, List.setIfInBounds_toArray, List.set_cons_zero, List.set_cons_succ, i64_w, i32_w]
            rfl
          refine pure_ (i := 7) (N := some 68) (v := ?_) (a' := ?_) #[true, true, true, true, true, true, true, true, false, false, false, false, false, false, false, false, false, false] rfl rfl (by kernel_rfl) (fun _ _ _ h => h) (Or.inl ⟨by rfl, ?_⟩) ?_ ?_
          rotate_left
          · intro w'
            go_simp
            with_reducible rfl
          rotate_left
          · simp only [Act.put, List.setIfInBounds_toArray, List.set_cons_zero, List.set_cons_succ, i64_w, i32_w]
            rfl
          refine pure_ (i := 8) (N := some 69) (v := ?_) (a' := ?_) #[true, true, true, true, true, true, true, true, true, false, false, false, false, false, false, false, false, false] rfl rfl (by kernel_rfl) (fun _ _ _ h => h) (Or.inl ⟨by rfl, ?_⟩) ?_ ?_
          rotate_left
          · intro w'
            go_simp
            with_reducible rfl
          rotate_left
          · simp only [Act.put, List.setIfInBounds_toArray, List.set_cons_zero, List.set_cons_succ, i64_w, i32_w]
            rfl
          refine pure_ (i := 10) (N := some 71) (v := ?_) (a' := ?_) #[true, true, true, true, true, true, true, true, true, false, true, false, false, false, false, false, false, false] rfl rfl (by kernel_rfl) (fun _ _ _ h => h) (Or.inl ⟨by rfl, ?_⟩) ?_ ?_
          rotate_left
          · intro w'
            go_simp
            with_reducible rfl
          rotate_left
          · simp only [Act.put, List.setIfInBounds_toArray, List.set_cons_zero, List.set_cons_succ, i64_w, i32_w]
            rfl
          refine pure_ (i := 11) (N := some 72) (v := ?_) (a' := ?_) #[true, true, true, true, true, true, true, true, true, false, true, true, false, false, false, false, false, false] rfl rfl (by kernel_rfl) (fun _ _ _ h => h) (Or.inl ⟨by rfl, ?_⟩) ?_ ?_
          rotate_left
          · intro w'
            go_simp
            with_reducible rfl
          rotate_left
          · simp only [Act.put, List.setIfInBounds_toArray, List.set_cons_zero, List.set_cons_succ, i64_w, i32_w]
            rfl
          refine pure_ (i := 12) (N := some 73) (v := ?_) (a' := ?_) #[true, true, true, true, true, true, true, true, true, false, true, true, true, false, false, false, false, false] rfl rfl (by kernel_rfl) (fun _ _ _ h => h) (Or.inl ⟨by rfl, ?_⟩) ?_ ?_
          rotate_left
          · intro w'
            go_simp
            with_reducible rfl
          rotate_left
          · simp only [Act.put, List.setIfInBounds_toArray, List.set_cons_zero, List.set_cons_succ, i64_w, i32_w]
            rfl
          refine take_ (i := 9) (N := some 70) (v := ?_) (a' := ?_) #[true, true, true, true, true, true, true, true, true, true, true, true, true, false, false, false, false, false] rfl rfl (by kernel_rfl) (fun _ _ _ h => h) (Or.inl ⟨by rfl, ?_⟩) hHeld ?_ ?_
          rotate_left
          · rintro w' ⟨s0, s1, s2, s3, s4, s5, s6, s7, s8⟩
            go_simp
            with_reducible rfl
          rotate_left
          · simp only [Act.put, List.setIfInBounds_toArray, List.set_cons_zero, List.set_cons_succ, i64_w, i32_w]
            rfl
          refine take_ (i := 13) (N := some 74) (v := ?_) (a' := ?_) #[true, true, true, true, true, true, true, true, true, true, true, true, true, true, false, false, false, false] rfl rfl (by kernel_rfl) (fun _ _ _ h => h) (Or.inl ⟨by rfl, ?_⟩) hHeld ?_ ?_
          rotate_left
          · rintro w' ⟨s0, s1, s2, s3, s4, s5, s6, s7, s8⟩
            go_simp
            with_reducible rfl
          rotate_left
          · simp only [Act.put, List.setIfInBounds_toArray, List.set_cons_zero, List.set_cons_succ, i64_w, i32_w]
            rfl
          refine pure_ (i := 14) (N := some 75) (v := ?_) (a' := ?_) #[true, true, true, true, true, true, true, true, true, true, true, true, true, true, true, false, false, false] rfl rfl (by kernel_rfl) (fun _ _ _ h => h) (Or.inl ⟨by rfl, ?_⟩) ?_ ?_
          rotate_left
          · intro w'
            go_simp
            with_reducible rfl
          rotate_left
          · simp only [Act.put, List.setIfInBounds_toArray, List.set_cons_zero, List.set_cons_succ, i64_w, i32_w]
            rfl
          refine last_ (i := 15) (N := none) #[true, true, true, true, true, true, true, true, true, true, true, true, true, true, true, true, false, false] rfl rfl (by kernel_rfl) (by decide) (fun K hK => ?_)
          refine skip_ (w1 := ?_) (by rfl) rfl ?_ ?_
          rotate_left
          · go_simp
            rfl
          refine hK.out _ _ ?_
          clear hK K
          refine pure_ (i := 16) (N := some 76) (v := ?_) (a' := ?_) #[true, true, true, true, true, true, true, true, true, true, true, true, true, true, true, true, true, false] rfl rfl (by kernel_rfl) (fun _ _ _ h => h) (Or.inl ⟨by rfl, ?_⟩) ?_ ?_
          rotate_left
          · intro w'
            go_simp
            with_reducible rfl
          rotate_left
          · simp only [Act.put, List.setIfInBounds_toArray, List.set_cons_zero, List.set_cons_succ, i64_w, i32_w]
            rfl
          refine last_ (i := 17) (N := none) #[true, true, true, true, true, true, true, true, true, true, true, true, true, true, true, true, true, true] rfl rfl (by kernel_rfl) (by decide) (fun K hK => ?_)
          refine skip_ (w1 := ?_) (by rfl) rfl ?_ ?_
          rotate_left
          · go_simp
            rfl
          refine hK.out _ _ ?_
          clear hK K
          refine done_ (by kernel_rfl) ?_
          have HR4 := Aside0.mk HSw.out.1.drew
          have HS4 := Aside0.mk (HSw.out.2.trans HS2.out)
          clear HR HSw HS HS2 hHeld hcs3 hfz d0 d1 d2 d3 c0 c1 c2 c3
          generalize World.drew _ = w4 at *
          go_wp2_with fail
          go_roundw
          case rel => exact .mk (k + 1) _ (by have := HKb.out; first | (rw [hwy]; clear hwy hw1; go_num) | (clear hwy hw1; go_num)) (by have := HKb.out; have := HAk.out; clear hwy hw1; omega) (by have := HKb.out; clear hwy hw1; omega) HR4.out HS4.out
          case measure => have := HKb.out; first | (rw [hwy]; clear hwy hw1; simp [intOf]; omega) | (clear hwy hw1; simp [intOf]; omega)
        · have e0 : k + 1 = i := by have := HM.out; clear hw1; omega
          have hk2 : decide ((k : Int) < (i : Int) - 1) = false := decide_eq_false (by omega)
          have hk3 : decide (k < i - 1) = false := decide_eq_false hk
          have HE := Aside0.mk e0
          clear hk e0
          go_wp2_with fail
          (try simp only [Exit.inBlock, Exit.then]); refine bodyPost_ret (results_none rfl _ _ _) rfl ?_
          rw [HE.out] at HS
          refine ⟨rfl, ys, HR.out, ?_, ?_⟩
          · rw [HS.out]; have := HM.out; clear hw1; exact (rot_in (by omega) (by omega)).wide (Nat.le_refl _) (by omega)
          · rw [HS.out, ← HM.out]; have := HM.out; clear hw1; exact sym_leaf HP.out H1.out H2.out (Nat.le_refl _) (by omega) (by omega) (by omega) (fun h => absurd h (Nat.lt_irrefl _)) (fun _ h => HP.out.asym _ _ (HI.out h)) (fun _ h => by rw [show m - 1 = a by have := HM.out; omega]; exact Int.not_lt.2 (HJ.out h)) (fun h => absurd h (Nat.lt_irrefl _))
end Go.Proofs.Ytfeeahjaeapkoaa.Ext
end

section
namespace Go.Proofs.Ytfeeahjaeapkoaa.Ext
set_option linter.unusedVariables false
set_option linter.unusedSimpArgs false
open Go.RowKit Go.Proofs.YtfeeahjaeapkoaaW.PrintWords Go.Proofs.YtfeeahjaeapkoaaW.PrintLast Go.Proofs.YtfeeahjaeapkoaaW.PrintMore Go.Proofs.Ytfeeahjaeapkoaa.Lib
set_option maxRecDepth 100000 in
set_option maxHeartbeats 3200000 in
theorem sym2_calls (cf : Q → Q → Int) (hp : Pre cf) (f : FuncId) (fn : Func) (hf : Try.prog.funcs[f]? = some fn) (hname : (fn.name == "runtime.NumGoroutine") = false) (hbody : fn.body.isSome = true) (g c n : Nat) (base : Nat) (ok : Nat → Prop) (hn : n ≤ 1152921504606846976) (a m b : Nat) (xs : List Q) (w : World)
    (hrow : kq.R 40 w base ok (.slice (some ⟨g, 0, none⟩) n c) xs) (hcmp : CmpOk f cf w g xs) (h1 : SrtOn cf (at_ xs) a m) (h2 : SrtOn cf (at_ xs) m b) (hma : a + 1 < m) (hbm : b = m + 1) (hb : b ≤ n) :
    Calls Try.prog 58 #[.slice (some ⟨g, 0, none⟩) n c, .int .i64 a, .int .i64 m, .int .i64 b, .func (.func f) #[] #[]] w fun e w' => e = .returned (.tuple #[]) ∧ ∃ ys, RS w w' base ok g n c xs ys ∧ In a b (at_ xs) (at_ ys) ∧ SrtOn cf (at_ ys) a b := by
  have HF := Aside0.mk hf
  have HNm := Aside0.mk hname
  have HBd := Aside0.mk hbody
  have HCmp := Aside0.mk hcmp
  have HP := Aside0.mk hp
  have H1 := Aside0.mk h1
  have H2 := Aside0.mk h2
  have HR := Aside0.mk (RS.refl hrow)
  clear hf hname hbody hcmp hrow hp h1 h2
  have t1 : (((m : Int) - (a : Int)) == 1) = false := beq_eq_false_iff_ne.2 (by omega)
  have t2 : (b : Int) - (m : Int) = 1 := by omega
  have HM := Aside0.mk hbm
  have HMa := Aside0.mk (show m < n ∧ a < m by omega)
  clear hbm
  go_enter Try.func58, Try.ntmps58
  go_wp2_with fail
  go_loopw [14, 15] (fun v14 v15 w' => RelA2 cf w base ok g n c xs a m m v14 v15 w') (fun v14 v15 _ => (intOf v15).toNat - (intOf v14).toNat)
  case atStart => exact .mk a m rfl rfl (Nat.le_refl _) (by omega) (Nat.le_refl _) (fun h => absurd h (Nat.lt_irrefl _)) (fun h => absurd h (Nat.lt_irrefl _)) HR.out
  case round =>
    clear HR
    obtain ⟨i, j, rfl, rfl, hi, hij, hj, hI, hJ, hR⟩ := hrel
    have HI := Aside0.mk hI
    have HJ := Aside0.mk hJ
    have HR := Aside0.mk hR
    clear hI hJ hR
    by_cases hlt : i < j
    · obtain ⟨h, hh⟩ : ∃ h, h = (i + j) / 2 := ⟨_, rfl⟩
      have HX := Aside0.mk (show i ≤ h ∧ h < j ∧ (i : Int) < (j : Int) ∧ ((i : Int) + (j : Int)) / 2 = (h : Int) ∧ (h : Int) < (n : Int) ∧ (m : Int) < (n : Int) ∧ h < 9223372036854775808 by have := HMa.out; omega)
      have hal := HMa.out
      obtain ⟨d0, d1, d2, d3⟩ := kq_get HR.out.row m (by omega)
      simp only [encSL] at d1 d2
      obtain ⟨c0, c1, c2, c3⟩ := kq_get HR.out.row h (by omega)
      simp only [encSL] at c1 c2
      have hm1 : at_ xs m ∈ xs := (by have hl := HR.out.len; show xs.getD m zQ ∈ xs; rw [List.getD_eq_getElem?_getD, List.getElem?_eq_getElem (by omega)]; exact List.getElem_mem _)
      have hm0 : at_ xs h ∈ xs := (by have hl := HR.out.len; show xs.getD h zQ ∈ xs; rw [List.getD_eq_getElem?_getD, List.getElem?_eq_getElem (by omega)]; exact List.getElem_mem _)
      have HC := Aside0.mk (fun w' (h : w.grownBy w' (some g)) => HCmp.out w' h _ hm1 _ hm0)
      generalize hp1 : xs.getD m zQ = p at *
      generalize hq1 : xs.getD h zQ = q at *
      have HPq := Aside0.mk (show at_ xs m = p ∧ at_ xs h = q from ⟨hp1, hq1⟩)
      rw [HPq.out.1, HPq.out.2] at HC
      clear hp1 hq1 hm1 hm0 hlt hh hal
      have hij2 := HX.out.2.2.1
      have hhi := HX.out.2.2.2.1
      have hhn := HX.out.2.2.2.2.1
      have han := HX.out.2.2.2.2.2.1
      have hwu : IntKind.u64.wrap ((i : Int) + (j : Int)) = (i : Int) + (j : Int) := wraps_u64 _ (by omega) (by omega)
      have hwh : wrap64 (h : Int) = (h : Int) := w64 rfl HX.out.2.2.2.2.2.2
      go_wp2_with fail
      refine start_ (n := 12) (S := fun w' => w'.cell? ⟨g, m * 4, none⟩ = some (.int .i64 p.1) ∧ w'.cell? ⟨g, m * 4 + 1, none⟩ = some (.slice p.2.1.1 p.2.1.2.1 p.2.1.2.2) ∧ w'.cell? ⟨g, m * 4 + 2, none⟩ = some (.slice p.2.2.1.1 p.2.2.1.2.1 p.2.2.1.2.2) ∧ w'.cell? ⟨g, m * 4 + 3, none⟩ = some (.int .u64 p.2.2.2) ∧ w'.cell? ⟨g, h * 4, none⟩ = some (.int .i64 q.1) ∧ w'.cell? ⟨g, h * 4 + 1, none⟩ = some (.slice q.2.1.1 q.2.1.2.1 q.2.1.2.2) ∧ w'.cell? ⟨g, h * 4 + 2, none⟩ = some (.slice q.2.2.1.1 q.2.2.1.2.1 q.2.2.1.2.2) ∧ w'.cell? ⟨g, h * 4 + 3, none⟩ = some (.int .u64 q.2.2.2)) (ds := []) #[false, false, false, false, false, false, false, false, false, false, false, false] (by kernel_rfl) rfl rfl ⟨d0, d1, d2, d3, c0, c1, c2, c3⟩ (fun hHeld => ?_)
      refine pure_ (i := 0) (N := some 92) (v := ?_) (a' := ?_) #[true, false, false, false, false, false, false, false, false, false, false, false] rfl rfl (by kernel_rfl) (fun _ _ _ h => h) (Or.inl ⟨by rfl, ?_⟩) ?_ ?_
      rotate_left
      · intro w'
        go_simp
        with_reducible rfl
      rotate_left
      · simp only [Act.put, List.setIfInBounds_toArray, List.set_cons_zero, List.set_cons_succ, i64_w, i32_w]
        rfl
      refine pure_ (i := 1) (N := some 93) (v := ?_) (a' := ?_) #[true, true, false, false, false, false, false, false, false, false, false, false] rfl rfl (by kernel_rfl) (fun _ _ _ h => h) (Or.inl ⟨by rfl, ?_⟩) ?_ ?_
      rotate_left
      · intro w'
        go_simp
        with_reducible rfl
      rotate_left
      · simp only [Act.put, List.setIfInBounds_toArray, List.set_cons_zero, List.set_cons_succ, i64_w, i32_w]
        rfl
      refine pure_ (i := 2) (N := some 94) (v := ?_) (a' := ?_) #[true, true, true, false, false, false, false, false, false, false, false, false] rfl rfl (by kernel_rfl) (fun _ _ _ h => h) (Or.inl ⟨by rfl, ?_⟩) ?_ ?_
      rotate_left
      · intro w'
        go_simp
        with_reducible rfl
      rotate_left
      · simp only [Act.put, List.setIfInBounds_toArray, List.set_cons_zero, List.set_cons_succ, i64_w, i32_w]
        rfl
      refine pure_ (i := 3) (N := some 95) (v := ?_) (a' := ?_) #[true, true, true, true, false, false, false, false, false, false, false, false] rfl rfl (by kernel_rfl) (fun _ _ _ h => h) (Or.inl ⟨by rfl, ?_⟩) ?_ ?_
      rotate_left
      · intro w'
        go_simp
        with_reducible rfl
      rotate_left
      · simp only [Act.put, List.setIfInBounds_toArray, List.set_cons_zero, List.set_cons_succ, i64_w, i32_w]
        rfl
      refine pure_ (i := 5) (N := some 97) (v := ?_) (a' := ?_) #[true, true, true, true, false, true, false, false, false, false, false, false] rfl rfl (by kernel_rfl) (fun _ _ _ h => h) (Or.inl ⟨by rfl, ?_⟩) ?_ ?_
      rotate_left
      · intro w'
        go_simp
        with_reducible rfl
      rotate_left
      · simp only [Act.put, List.setIfInBounds_toArray, List.set_cons_zero, List.set_cons_succ, i64_w, i32_w]
        rfl
      refine pure_ (i := 6) (N := some 98) (v := ?_) (a' := ?_) #[true, true, true, true, false, true, true, false, false, false, false, false] rfl rfl (by kernel_rfl) (fun _ _ _ h => h) (Or.inl ⟨by rfl, ?_⟩) ?_ ?_
      rotate_left
      · intro w'
        go_simp
        with_reducible rfl
      rotate_left
      · simp only [Act.put, List.setIfInBounds_toArray, List.set_cons_zero, List.set_cons_succ, i64_w, i32_w]
        rfl
      refine pure_ (i := 7) (N := some 99) (v := ?_) (a' := ?_) #[true, true, true, true, false, true, true, true, false, false, false, false] rfl rfl (by kernel_rfl) (fun _ _ _ h => h) (Or.inl ⟨by rfl, ?_⟩) ?_ ?_
      rotate_left
      · intro w'
        go_simp
        with_reducible rfl
      rotate_left
      · simp only [Act.put, List.setIfInBounds_toArray, List.set_cons_zero, List.set_cons_succ, i64_w, i32_w]
        rfl
      refine take_ (i := 4) (N := some 96) (v := ?_) (a' := ?_) #[true, true, true, true, true, true, true, true, false, false, false, false] rfl rfl (by kernel_rfl) (fun _ _ _ h => h) (Or.inl ⟨by rfl, ?_⟩) hHeld ?_ ?_
      rotate_left
      · rintro w' ⟨s0, s1, s2, s3, s4, s5, s6, s7⟩
        go_simp
        with_reducible rfl
      rotate_left
      · simp only [Act.put, List.setIfInBounds_toArray, List.set_cons_zero, List.set_cons_succ, i64_w, i32_w]
        rfl
      refine take_ (i := 8) (N := some 100) (v := ?_) (a' := ?_) #[true, true, true, true, true, true, true, true, true, false, false, false] rfl rfl (by kernel_rfl) (fun _ _ _ h => h) (Or.inl ⟨by rfl, ?_⟩) hHeld ?_ ?_
      rotate_left
      · rintro w' ⟨s0, s1, s2, s3, s4, s5, s6, s7⟩
        go_simp
        with_reducible rfl
      rotate_left
      · simp only [Act.put, List.setIfInBounds_toArray, List.set_cons_zero, List.set_cons_succ, i64_w, i32_w]
        rfl
      refine one_ (i := 9) (N := some 101) #[true, true, true, true, true, true, true, true, true, true, false, false] rfl rfl (by kernel_rfl) (by decide) (fun K hK => ?_)
      refine goesv_ HF.out HNm.out HBd.out (#[.agg #[.int .i64 p.1, .slice p.2.1.1 p.2.1.2.1 p.2.1.2.2, .slice p.2.2.1.1 p.2.2.1.2.1 p.2.2.1.2.2, .int .u64 p.2.2.2], .agg #[.int .i64 q.1, .slice q.2.1.1 q.2.1.2.1 q.2.1.2.2, .slice q.2.2.1.1 q.2.2.1.2.1 q.2.2.1.2.2, .int .u64 q.2.2.2]]) (by rfl) rfl rfl rfl (by simp only [List.map_toArray, List.map_cons, List.map_nil]; rfl) ?_
      with_reducible refine (HC.out _ (grown_drew HR.out.grown)).mono ?_
      rintro e w3 ⟨rfl, hb⟩
      refine ⟨_, rfl, ?_⟩
      have hbx := Aside0.mk (below_then (below_drew (Below.refl _ _)) (Nat.le_refl _) hb)
      have HR3 := Aside0.mk (HR.out.below hbx.out)
      clear hb
      refine hK.out _ _ ⟨(pw_cell_below hbx.out d0), (pw_cell_below hbx.out d1), (pw_cell_below hbx.out d2), (pw_cell_below hbx.out d3), (pw_cell_below hbx.out c0), (pw_cell_below hbx.out c1), (pw_cell_below hbx.out c2), (pw_cell_below hbx.out c3)⟩ (fun hHeld => ?_)
      clear hK K
      refine norm_ (a' := ?_) ?_ ?_
      rotate_left
      · show Act.put _ (some 101) _ = _
        simp only [Act.put, List.setIfInBounds_toArray, List.set_cons_zero, List.set_cons_succ, i64_w, i32_w]
        rfl
      refine pure_ (i := 10) (N := some 102) (v := ?_) (a' := ?_) #[true, true, true, true, true, true, true, true, true, true, true, false] rfl rfl (by kernel_rfl) (fun _ _ _ h => h) (Or.inl ⟨by rfl, ?_⟩) ?_ ?_
      rotate_left
      · intro w'
        go_simp
        with_reducible rfl
      rotate_left
      · simp only [Act.put, List.setIfInBounds_toArray, List.set_cons_zero, List.set_cons_succ, i64_w, i32_w]
        rfl
      refine pure_ (i := 11) (N := some 103) (v := ?_) (a' := ?_) #[true, true, true, true, true, true, true, true, true, true, true, true] rfl rfl (by kernel_rfl) (fun _ _ _ h => h) (Or.inl ⟨by rfl, ?_⟩) ?_ ?_
      rotate_left
      · intro w'
        go_simp
        with_reducible rfl
      rotate_left
      · simp only [Act.put, List.setIfInBounds_toArray, List.set_cons_zero, List.set_cons_succ, i64_w, i32_w]
        rfl
      refine done_ (by kernel_rfl) ?_
      clear hHeld d0 d1 d2 d3 c0 c1 c2 c3 HR HC hbx
      by_cases hc : cf p q < 0
      · have hcd : decide (cf p q < 0) = true := decide_eq_true hc
        have hcd2 : decide (0 ≤ cf p q) = false := decide_eq_false (Int.not_le.2 hc)
        have HCq := Aside0.mk hc
        clear hc
        rw [hcd]; simp only [Bool.not_true, Bool.not_false]
        go_wp2_with fail
        go_roundw
        case rel => exact .mk i h rfl rfl hi (by have := HX.out; clear hwu hwh; omega) (by have := HX.out; clear hwu hwh; omega) (fun h => Int.not_lt.2 (HI.out h)) (fun _ => by rw [HPq.out.1, HPq.out.2]; exact HCq.out) HR3.out
        case measure => have := HX.out; clear hwu hwh; simp [intOf]; omega
      · have hcd : decide (cf p q < 0) = false := decide_eq_false hc
        have hcd2 : decide (0 ≤ cf p q) = true := decide_eq_true (Int.not_lt.1 hc)
        have HCq := Aside0.mk (Int.not_lt.1 hc)
        clear hc
        rw [hcd]; simp only [Bool.not_true, Bool.not_false]
        go_wp2_with fail
        go_roundw
        case rel => exact .mk (h + 1) j (by clear hwu hwh; go_num) rfl (by have := HX.out; clear hwu hwh; omega) (by have := HX.out; clear hwu hwh; omega) hj (fun _ => by rw [Nat.add_sub_cancel, HPq.out.1, HPq.out.2]; exact Int.not_lt.2 HCq.out) HJ.out HR3.out
        case measure => have := HX.out; clear hwu hwh; simp [intOf]; omega
    · obtain rfl : i = j := by omega
      have t3 : decide (i < i) = false := decide_eq_false (by omega)
      clear hlt
      have HIb := Aside0.mk (show a ≤ i ∧ i ≤ m ∧ b = m + 1 ∧ m < n from ⟨hi, hj, HM.out, HMa.out.1⟩)
      go_wp2_with fail
      go_loopw [17] (fun v17 w' => RelB2 w base ok g n c xs i m v17 w') (fun v17 _ => (intOf v17).toNat)
      case atStart => exact .mk m xs rfl hj (Nat.le_refl _) HR.out (rot_none1 m (m + 1) _).symm
      case round =>
        clear HR
        obtain ⟨k, ys, rfl, hak, hki, hR, hS⟩ := hrel
        have HR := Aside0.mk hR
        have HS := Aside0.mk hS
        clear hR hS
        by_cases hk : i < k
        · obtain ⟨y, hy⟩ : ∃ y, k = y + 1 := ⟨k - 1, by omega⟩
          have HKb := Aside0.mk (show k = y + 1 ∧ i ≤ y ∧ (i : Int) < (k : Int) ∧ (k : Int) - 1 = (y : Int) ∧ y < 9223372036854775808 ∧ (k : Int) < (n : Int) ∧ (y : Int) < (n : Int) ∧ ¬ k = y ∧ ¬ y = k by have := HMa.out; omega)
          have hmn := HMa.out
          obtain ⟨d0, d1, d2, d3⟩ := kq_get HR.out.row k (by omega)
          simp only [encSL] at d1 d2
          obtain ⟨c0, c1, c2, c3⟩ := kq_get HR.out.row y (by omega)
          simp only [encSL] at c1 c2
          have HSw := Aside0.mk (RS.swap2 HR.out k y (by omega) (by omega) (by omega) _ _ rfl rfl)
          have HS2 := Aside0.mk (show swapF k y 1 (at_ ys) = rotF y m (m + 1) (at_ xs) by rw [HS.out, hy]; exact rot_left y m _ (by omega))
          obtain ⟨cs3, hcs3⟩ := Kd.R_typed HR.out.row g rfl
          have hfz : ∀ o, wr.frozen? ⟨g, o, none⟩ = false := fun o => blk_frozen hcs3 o
          generalize hp1 : ys.getD k zQ = p at *
          generalize hq1 : ys.getD y zQ = q at *
          clear hp1 hq1
          have hkn := HKb.out.2.2.2.2.2.1
          have hyn := HKb.out.2.2.2.2.2.2.1
          have hxy := HKb.out.2.2.2.2.2.2.2.1
          have hyx := HKb.out.2.2.2.2.2.2.2.2
          have hki2 := HKb.out.2.2.1
          have HAk := Aside0.mk hki
          clear hy hk hak hki hmn
          have hwy : wrap64 ((k : Int) - 1) = (y : Int) := w64 HKb.out.2.2.2.1 HKb.out.2.2.2.2.1
          go_wp2_with fail
          refine start_ (n := 18) (S := fun w' => w'.cell? ⟨g, y * 4, none⟩ = some (.int .i64 q.1) ∧ w'.cell? ⟨g, y * 4 + 1, none⟩ = some (.slice q.2.1.1 q.2.1.2.1 q.2.1.2.2) ∧ w'.cell? ⟨g, y * 4 + 2, none⟩ = some (.slice q.2.2.1.1 q.2.2.1.2.1 q.2.2.1.2.2) ∧ w'.cell? ⟨g, y * 4 + 3, none⟩ = some (.int .u64 q.2.2.2) ∧ w'.cell? ⟨g, k * 4, none⟩ = some (.int .i64 p.1) ∧ w'.cell? ⟨g, k * 4 + 1, none⟩ = some (.slice p.2.1.1 p.2.1.2.1 p.2.1.2.2) ∧ w'.cell? ⟨g, k * 4 + 2, none⟩ = some (.slice p.2.2.1.1 p.2.2.1.2.1 p.2.2.1.2.2) ∧ w'.cell? ⟨g, k * 4 + 3, none⟩ = some (.int .u64 p.2.2.2) ∧ ∀ o, w'.frozen? ⟨g, o, none⟩ = false) (ds := [15, 17]) #[false, false, false, false, false, false, false, false, false, false, false, false, false, false, false, false, false, false] (by kernel_rfl) rfl rfl ⟨c0, c1, c2, c3, d0, d1, d2, d3, hfz⟩ (fun hHeld => ?_)
          refine pure_ (i := 0) (N := some 113) (v := ?_) (a' := ?_) #[true, false, false, false, false, false, false, false, false, false, false, false, false, false, false, false, false, false] rfl rfl (by kernel_rfl) (fun _ _ _ h => h) (Or.inl ⟨by rfl, ?_⟩) ?_ ?_
          rotate_left
          · intro w'
            go_simp
            with_reducible rfl
          rotate_left
          · simp only [Act.put, List.setIfInBounds_toArray, List.set_cons_zero, List.set_cons_succ, i64_w, i32_w]
            rfl
          refine pure_ (i := 1) (N := some 114) (v := ?_) (a' := ?_) #[true, true, false, false, false, false, false, false, false, false, false, false, false, false, false, false, false, false] rfl rfl (by kernel_rfl) (fun _ _ _ h => h) (Or.inl ⟨by rfl, ?_⟩) ?_ ?_
          rotate_left
          · intro w'
            go_simp
            with_reducible rfl
          rotate_left
          · simp only [Act.put, List.setIfInBounds_toArray, List.set_cons_zero, List.set_cons_succ, i64_w, i32_w]
            rfl
          refine pure_ (i := 2) (N := some 115) (v := ?_) (a' := ?_) #[true, true, true, false, false, false, false, false, false, false, false, false, false, false, false, false, false, false] rfl rfl (by kernel_rfl) (fun _ _ _ h => h) (Or.inl ⟨by rfl, ?_⟩) ?_ ?_
          rotate_left
          · intro w'
            go_simp
            with_reducible rfl
          rotate_left
          · simp only [Act.put, List.setIfInBounds_toArray, List.set_cons_zero, List.set_cons_succ, i64_w, i32_w]
            rfl
          refine pure_ (i := 3) (N := some 116) (v := ?_) (a' := ?_) #[true, true, true, true, false, false, false, false, false, false, false, false, false, false, false, false, false, false] rfl rfl (by kernel_rfl) (fun _ _ _ h => h) (Or.inl ⟨by rfl, ?_⟩) ?_ ?_
          rotate_left
          · intro w'
            go_simp
            with_reducible rfl
          rotate_left
          · simp only [Act.put, List.setIfInBounds_toArray, List.set_cons_zero, List.set_cons_succ, i64_w, i32_w]
            rfl
          refine pure_ (i := 4) (N := some 117) (v := ?_) (a' := ?_) #[true, true, true, true, true, false, false, false, false, false, false, false, false, false, false, false, false, false] rfl rfl (by kernel_rfl) (fun _ _ _ h => h) (Or.inl ⟨by rfl, ?_⟩) ?_ ?_
          rotate_left
          · intro w'
            go_simp
            with_reducible rfl
          rotate_left
          · simp only [Act.put, List.setIfInBounds_toArray, List.set_cons_zero, List.set_cons_succ, i64_w, i32_w]
            rfl
          refine pure_ (i := 5) (N := some 118) (v := ?_) (a' := ?_) #[true, true, true, true, true, true, false, false, false, false, false, false, false, false, false, false, false, false] rfl rfl (by kernel_rfl) (fun _ _ _ h => h) (Or.inl ⟨by rfl, ?_⟩) ?_ ?_
          rotate_left
          · intro w'
            go_simp
            with_reducible rfl
          rotate_left
          · simp only [Act.put, List.setIfInBounds_toArray, List.set_cons_zero, List.set_cons_succ, i64_w, i32_w]
            rfl
          refine pure_ (i := 6) (N := some 119) (v := ?_) (a' := ?_) #[true, true, true, true, true, true, true, false, false, false, false, false, false, false, false, false, false, false] rfl rfl (by kernel_rfl) (fun _ _ _ h => h) (Or.inl ⟨by rfl, ?_⟩) ?_ ?_
          rotate_left
          · intro w'
            go_simp
            with_reducible rfl
          rotate_left
          · simp only [Act.put, List.setIfInBounds_toArray, List.set_cons_zero, List.set_cons_succ, i64_w, i32_w]
            rfl
          refine pure_ (i := 7) (N := some 120) (v := ?_) (a' := ?_) #[true, true, true, true, true, true, true, true, false, false, false, false, false, false, false, false, false, false] rfl rfl (by kernel_rfl) (fun _ _ _ h => h) (Or.inl ⟨by rfl, ?_⟩) ?_ ?_
          rotate_left
          · intro w'
            go_simp
            with_reducible rfl
          rotate_left
          · simp only [Act.put, List.setIfInBounds_toArray, List.set_cons_zero, List.set_cons_succ, i64_w, i32_w]
            rfl
          refine pure_ (i := 8) (N := some 121) (v := ?_) (a' := ?_) #[true, true, true, true, true, true, true, true, true, false, false, false, false, false, false, false, false, false] rfl rfl (by kernel_rfl) (fun _ _ _ h => h) (Or.inl ⟨by rfl, ?_⟩) ?_ ?_
          rotate_left
          · intro w'
            go_simp
            with_reducible rfl
          rotate_left
          · simp only [Act.put, List.setIfInBounds_toArray, List.set_cons_zero, List.set_cons_succ, i64_w, i32_w]
            rfl
          refine pure_ (i := 10) (N := some 123) (v := ?_) (a' := ?_) #[true, true, true, true, true, true, true, true, true, false, true, false, false, false, false, false, false, false] rfl rfl (by kernel_rfl) (fun _ _ _ h => h) (Or.inl ⟨by rfl, ?_⟩) ?_ ?_
          rotate_left
          · intro w'
            go_simp
            with_reducible rfl
          rotate_left
          · simp only [Act.put, List.setIfInBounds_toArray, List.set_cons_zero, List.set_cons_succ, i64_w, i32_w]
            rfl
          refine pure_ (i := 11) (N := some 124) (v := ?_) (a' := ?_) #[true, true, true, true, true, true, true, true, true, false, true, true, false, false, false, false, false, false] rfl rfl (by kernel_rfl) (fun _ _ _ h => h) (Or.inl ⟨by rfl, ?_⟩) ?_ ?_
          rotate_left
          · intro w'
            go_simp
            with_reducible rfl
          rotate_left
          · simp only [Act.put, List.setIfInBounds_toArray, List.set_cons_zero, List.set_cons_succ, i64_w, i32_w]
            rfl
          refine pure_ (i := 12) (N := some 125) (v := ?_) (a' := ?_) #[true, true, true, true, true, true, true, true, true, false, true, true, true, false, false, false, false, false] rfl rfl (by kernel_rfl) (fun _ _ _ h => h) (Or.inl ⟨by rfl, ?_⟩) ?_ ?_
          rotate_left
          · intro w'
            go_simp
            with_reducible rfl
          rotate_left
          · simp only [Act.put, List.setIfInBounds_toArray, List.set_cons_zero, List.set_cons_succ, i64_w, i32_w]
            rfl
          refine take_ (i := 9) (N := some 122) (v := ?_) (a' := ?_) #[true, true, true, true, true, true, true, true, true, true, true, true, true, false, false, false, false, false] rfl rfl (by kernel_rfl) (fun _ _ _ h => h) (Or.inl ⟨by rfl, ?_⟩) hHeld ?_ ?_
          rotate_left
          · rintro w' ⟨s0, s1, s2, s3, s4, s5, s6, s7, s8⟩
            go_simp
            with_reducible rfl
          rotate_left
          · simp only [Act.put, List.setIfInBounds_toArray, List.set_cons_zero, List.set_cons_succ, i64_w, i32_w]
            rfl
          refine take_ (i := 13) (N := some 126) (v := ?_) (a' := ?_) #[true, true, true, true, true, true, true, true, true, true, true, true, true, true, false, false, false, false] rfl rfl (by kernel_rfl) (fun _ _ _ h => h) (Or.inl ⟨by rfl, ?_⟩) hHeld ?_ ?_
          rotate_left
          · rintro w' ⟨s0, s1, s2, s3, s4, s5, s6, s7, s8⟩
            go_simp
            with_reducible rfl
          rotate_left
          · simp only [Act.put, List.setIfInBounds_toArray, List.set_cons_zero, List.set_cons_succ, i64_w, i32_w]
            rfl
          refine pure_ (i := 14) (N := some 127) (v := ?_) (a' := ?_) #[true, true, true, true, true, true, true, true, true, true, true, true, true, true, true, false, false, false] rfl rfl (by kernel_rfl) (fun _ _ _ h => h) (Or.inl ⟨by rfl, ?_⟩) ?_ ?_
          rotate_left
          · intro w'
            go_simp
            with_reducible rfl
          rotate_left
          · simp only [Act.put, List.setIfInBounds_toArray, List.set_cons_zero, List.set_cons_succ, i64_w, i32_w]
            rfl
          refine last_ (i := 15) (N := none) #[true, true, true, true, true, true, true, true, true, true, true, true, true, true, true, true, false, false] rfl rfl (by kernel_rfl) (by decide) (fun K hK => ?_)
          refine skip_ (w1 := ?_) (by rfl) rfl ?_ ?_
          rotate_left
          · go_simp
            rfl
          refine hK.out _ _ ?_
          clear hK K
          refine pure_ (i := 16) (N := some 128) (v := ?_) (a' := ?_) #[true, true, true, true, true, true, true, true, true, true, true, true, true, true, true, true, true, false] rfl rfl (by kernel_rfl) (fun _ _ _ h => h) (Or.inl ⟨by rfl, ?_⟩) ?_ ?_
          rotate_left
          · intro w'
            go_simp
            with_reducible rfl
          rotate_left
          · simp only [Act.put, List.setIfInBounds_toArray, List.set_cons_zero, List.set_cons_succ, i64_w, i32_w]
            rfl
          refine last_ (i := 17) (N := none) #[true, true, true, true, true, true, true, true, true, true, true, true, true, true, true, true, true, true] rfl rfl (by kernel_rfl) (by decide) (fun K hK => ?_)
          refine skip_ (w1 := ?_) (by rfl) rfl ?_ ?_
          rotate_left
          · go_simp
            rfl
          refine hK.out _ _ ?_
          clear hK K
          refine done_ (by kernel_rfl) ?_
          have HR4 := Aside0.mk HSw.out.1.drew
          have HS4 := Aside0.mk (HSw.out.2.trans HS2.out)
          clear HR HSw HS HS2 hHeld hcs3 hfz d0 d1 d2 d3 c0 c1 c2 c3
          generalize World.drew _ = w4 at *
          go_wp2_with fail
          go_roundw
          case rel => exact .mk y _ (by have := HKb.out; first | (rw [hwy]) | (clear hwy; go_num)) (by have := HKb.out; clear hwy; omega) (by have := HKb.out; have := HAk.out; clear hwy; omega) HR4.out HS4.out
          case measure => have := HKb.out; first | (rw [hwy]; clear hwy; simp [intOf]; omega) | (clear hwy; simp [intOf]; omega)
        · have e0 : k = i := by omega
          subst e0
          have hk3 : decide (k < k) = false := decide_eq_false hk
          clear hk
          go_wp2_with fail
          (try simp only [Exit.inBlock, Exit.then]); refine bodyPost_ret (results_none rfl _ _ _) rfl ?_
          have := HM.out
          refine ⟨rfl, ys, HR.out, ?_, ?_⟩
          · rw [HS.out]; exact (rot_in (by omega) (by omega)).wide (by omega) (by omega)
          · rw [HS.out]; exact sym_leaf HP.out H1.out H2.out (by omega) (by omega) (by omega) (by omega) (fun h _ => Int.not_lt.2 (HI.out h)) (fun h _ => by rw [Nat.add_sub_cancel]; exact HP.out.asym _ _ (HJ.out h)) (fun _ h => by omega) (fun _ h => by omega)
end Go.Proofs.Ytfeeahjaeapkoaa.Ext
end

section
namespace Go.Proofs.Ytfeeahjaeapkoaa.Ext
set_option linter.unusedVariables false
set_option linter.unusedSimpArgs false
open Go.RowKit Go.Proofs.YtfeeahjaeapkoaaW.PrintWords Go.Proofs.YtfeeahjaeapkoaaW.PrintLast Go.Proofs.YtfeeahjaeapkoaaW.PrintMore Go.Proofs.Ytfeeahjaeapkoaa.Lib
inductive RelC (w : World) (base : Nat) (ok : Nat → Prop) (g n c : Nat) (xs : List Q) (a m b mid nn : Nat) (v1 v2 : Value) (w' : World) : Prop
  | mk (lo hi : Nat) (e1 : v1 = .int .i64 lo) (e2 : v2 = .int .i64 hi) (hf : a ≤ lo ∧ lo ≤ hi ∧ hi ≤ m ∧ hi ≤ mid ∧ nn ≤ lo + b ∧ (lo = a ∨ lo + b = nn) ∧ (hi = m ∨ hi = mid)) (hrs : RS w w' base ok g n c xs xs)
inductive RelE (w : World) (base : Nat) (ok : Nat → Prop) (g n c : Nat) (xs ys : List Q) (s m e : Nat) (v : Value) (w' : World) : Prop
  | mk (t : Bool) (e1 : v = .bool t) (hy : t = true → s < m ∧ m < e) (hn : t = false → m ≤ s ∨ e ≤ m) (hrs : RS w w' base ok g n c xs ys)
inductive RelD (w : World) (base : Nat) (ok : Nat → Prop) (g n c : Nat) (xs : List Q) (s m e : Nat) (w' : World) : Prop
  | mk (ys : List Q) (hrs : RS w w' base ok g n c xs ys) (hy : at_ ys = rotF s m e (at_ xs))
inductive RelF (cf : Q → Q → Int) (w : World) (base : Nat) (ok : Nat → Prop) (g n c : Nat) (xs ys : List Q) (a b : Nat) (w' : World) : Prop
  | mk (zs : List Q) (hrs : RS w w' base ok g n c xs zs) (hi : In a b (at_ ys) (at_ zs)) (hs : SrtOn cf (at_ zs) a b)
theorem CmpOk.next {f : FuncId} {cf : Q → Q → Int} {w w' : World} {base : Nat} {ok : Nat → Prop} {g n c : Nat} {xs ys : List Q} (h : CmpOk f cf w g xs) (hr : RS w w' base ok g n c xs ys) : CmpOk f cf w' g ys := fun w2 h2 p hp q hq => h w2 (grown_trans hr.grown h2) p (hr.perm.mem_iff.1 hp) q (hr.perm.mem_iff.1 hq)
set_option maxRecDepth 100000 in
set_option maxHeartbeats 3200000 in
theorem sym3_calls (cf : Q → Q → Int) (hp : Pre cf) (f : FuncId) (fn : Func) (hf : Try.prog.funcs[f]? = some fn) (hname : (fn.name == "runtime.NumGoroutine") = false) (hbody : fn.body.isSome = true) (g c n : Nat) (base : Nat) (ok : Nat → Prop) (hn : n ≤ 1152921504606846976) (a m b : Nat) (xs : List Q) (w : World)
    (hrow : kq.R 40 w base ok (.slice (some ⟨g, 0, none⟩) n c) xs) (hcmp : CmpOk f cf w g xs) (h1 : SrtOn cf (at_ xs) a m) (h2 : SrtOn cf (at_ xs) m b) (hma : a + 1 < m) (hmb : m + 1 < b) (hb : b ≤ n)
    (hIH : ∀ (a' m' b' : Nat) (xs' : List Q) (w' : World), b' - a' < b - a → a' < m' → m' < b' → b' ≤ n → kq.R 40 w' base ok (.slice (some ⟨g, 0, none⟩) n c) xs' → CmpOk f cf w' g xs' → SrtOn cf (at_ xs') a' m' → SrtOn cf (at_ xs') m' b' →
      Calls Try.prog 58 #[.slice (some ⟨g, 0, none⟩) n c, .int .i64 a', .int .i64 m', .int .i64 b', .func (.func f) #[] #[]] w' fun e w2 => e = .returned (.tuple #[]) ∧ ∃ ys, RS w' w2 base ok g n c xs' ys ∧ In a' b' (at_ xs') (at_ ys) ∧ SrtOn cf (at_ ys) a' b') :
    Calls Try.prog 58 #[.slice (some ⟨g, 0, none⟩) n c, .int .i64 a, .int .i64 m, .int .i64 b, .func (.func f) #[] #[]] w fun e w' => e = .returned (.tuple #[]) ∧ ∃ ys, RS w w' base ok g n c xs ys ∧ In a b (at_ xs) (at_ ys) ∧ SrtOn cf (at_ ys) a b := by
  have HF := Aside0.mk hf
  have HNm := Aside0.mk hname
  have HBd := Aside0.mk hbody
  have HCmp := Aside0.mk hcmp
  have HP := Aside0.mk hp
  have H1 := Aside0.mk h1
  have H2 := Aside0.mk h2
  have HR := Aside0.mk (RS.refl hrow)
  clear hf hname hbody hcmp hrow hp h1 h2
  have HIH := Aside0.mk hIH
  obtain ⟨mid, hmid⟩ : ∃ x, x = (a + b) / 2 := ⟨_, rfl⟩
  obtain ⟨s0, hs0⟩ : ∃ x, x = a + b := ⟨_, rfl⟩
  obtain ⟨nn, hnn⟩ : ∃ x, x = mid + m := ⟨_, rfl⟩
  obtain ⟨pp, hpp⟩ : ∃ x, nn = x + 1 := ⟨nn - 1, by omega⟩
  have HN := Aside0.mk (show 2 * mid ≤ a + b ∧ a + b ≤ 2 * mid + 1 ∧ nn = mid + m ∧ nn = pp + 1 ∧ a + 1 < m ∧ m + 1 < b ∧ b ≤ n ∧ n ≤ 1152921504606846976 by omega)
  have t1 : (((m : Int) - (a : Int)) == 1) = false := beq_eq_false_iff_ne.2 (by omega)
  have t2 : (((b : Int) - (m : Int)) == 1) = false := beq_eq_false_iff_ne.2 (by omega)
  have W1 := Aside0.mk (show (a : Int) + (b : Int) = (s0 : Int) by omega)
  have WB := Aside0.mk (show a ≤ 1152921504606846976 ∧ b ≤ 1152921504606846976 ∧ m ≤ 1152921504606846976 ∧ mid ≤ 1152921504606846976 ∧ nn ≤ 2305843009213693952 ∧ s0 ≤ 2305843009213693952 by omega)
  have W2 := Aside0.mk (show IntKind.u64.wrap (s0 : Int) = (s0 : Int) from wraps_u64 _ (by omega) (by omega))
  have W3 := Aside0.mk (show (s0 : Int) / 2 = (mid : Int) by omega)
  have W5 := Aside0.mk (show (mid : Int) + (m : Int) = (nn : Int) by omega)
  have W6 := Aside0.mk (show (nn : Int) - 1 = (pp : Int) by omega)
  clear hIH hmid hnn hpp hs0
  go_enter Try.func58, Try.ntmps58
  go_upto_region 24 with fail
  clear hma hmb hb t1 t2 hn
  have w1 := W1.out
  have w2 := W2.out
  have w3 := W3.out
  obtain ⟨wa, wb, wm, wmid, wnn, ws⟩ := WB.out
  have w5 := W5.out
  go_upto_if 140 with fail
  clear w1 w2 w3 w5 wa ws
  go_cut [20, 21] (fun s1 s2 wx => RelC w base ok g n c xs a m b mid nn s1 s2 wx)
  case first => as_aux_lemma =>
    by_cases hc : mid < m
    · have hci : (mid : Int) < (m : Int) := by omega
      obtain ⟨lo, hlo⟩ : ∃ x, x = nn - b := ⟨_, rfl⟩
      have hf := HN.out
      have HC := Aside0.mk (show lo = nn - b ∧ mid < m by omega)
      have w1 : (nn : Int) - (b : Int) = (lo : Int) := by omega
      clear hlo hf hc
      go_wp2_with fail
      go_meet
      clear w1 hci
      exact .mk lo mid rfl rfl (by have hf := HN.out; have := HC.out; omega) HR.out
    · have hci : decide ((mid : Int) < (m : Int)) = false := decide_eq_false (by omega)
      have hcj : decide (mid < m) = false := decide_eq_false hc
      have HC := Aside0.mk hc
      have hck : (m : Int) ≤ (mid : Int) := by omega
      clear hc
      go_wp2_with fail
      go_meet
      clear hci hcj
      exact .mk a m rfl rfl (by have hf := HN.out; have := HC.out; omega) HR.out
  case rest => as_aux_lemma =>
    clear HR
    obtain ⟨lo, hi, rfl, rfl, hl, hR⟩ := hcut
    have HL := Aside0.mk hl
    have HR := Aside0.mk hR
    clear hl hR
    have w6 := W6.out
    go_wp2_with fail
    clear w6 wb wm wmid wnn
    go_loopw [20, 21] (fun v20 v21 w' => RelA3 cf w base ok g n c xs lo hi pp v20 v21 w') (fun v20 v21 _ => (intOf v21).toNat - (intOf v20).toNat)
    case atStart => exact .mk lo hi rfl rfl (Nat.le_refl _) HL.out.2.1 (Nat.le_refl _) (fun h => absurd h (Nat.lt_irrefl _)) (fun h => absurd h (Nat.lt_irrefl _)) HR.out
    case round => as_aux_lemma =>
      clear HR
      obtain ⟨i, j, rfl, rfl, hi1, hij, hj1, hI, hJ, hR⟩ := hrel
      have HI := Aside0.mk hI
      have HJ := Aside0.mk hJ
      have HR := Aside0.mk hR
      have hjn : j ≤ n ∧ n ≤ 1152921504606846976 := (by have := HN.out; have := HL.out; omega)
      clear hI hJ hR
      by_cases hlt : i < j
      · obtain ⟨h, hh⟩ : ∃ h, h = (i + j) / 2 := ⟨_, rfl⟩
        obtain ⟨y, hy⟩ : ∃ y, y = pp - h := ⟨_, rfl⟩
        have HX := Aside0.mk (show i ≤ h ∧ h < j ∧ (i : Int) < (j : Int) ∧ ((i : Int) + (j : Int)) / 2 = (h : Int) ∧ (h : Int) < (n : Int) ∧ (y : Int) < (n : Int) ∧ h < 9223372036854775808 ∧ (pp : Int) - (h : Int) = (y : Int) ∧ y < 9223372036854775808 ∧ y = pp - h by have := HN.out; have := HL.out; omega)
        have hal := HX.out
        obtain ⟨d0, d1, d2, d3⟩ := kq_get HR.out.row y (by omega)
        simp only [encSL] at d1 d2
        obtain ⟨c0, c1, c2, c3⟩ := kq_get HR.out.row h (by omega)
        simp only [encSL] at c1 c2
        have hm1 : at_ xs y ∈ xs := (by have hl := HR.out.len; show xs.getD y zQ ∈ xs; rw [List.getD_eq_getElem?_getD, List.getElem?_eq_getElem (by omega)]; exact List.getElem_mem _)
        have hm0 : at_ xs h ∈ xs := (by have hl := HR.out.len; show xs.getD h zQ ∈ xs; rw [List.getD_eq_getElem?_getD, List.getElem?_eq_getElem (by omega)]; exact List.getElem_mem _)
        have HC := Aside0.mk (fun w' (h : w.grownBy w' (some g)) => HCmp.out w' h _ hm1 _ hm0)
        generalize hp1 : xs.getD y zQ = p at *
        generalize hq1 : xs.getD h zQ = q at *
        have HPq := Aside0.mk (show at_ xs (pp - h) = p ∧ at_ xs h = q from ⟨by rw [← hy]; exact hp1, hq1⟩)
        rw [show at_ xs y = p from hp1, show at_ xs h = q from hq1] at HC
        clear hp1 hq1 hm1 hm0 hlt hh hal hy
        have hij2 := HX.out.2.2.1
        have hhi := HX.out.2.2.2.1
        have hhn := HX.out.2.2.2.2.1
        have hyn := HX.out.2.2.2.2.2.1
        have hwu : IntKind.u64.wrap ((i : Int) + (j : Int)) = (i : Int) + (j : Int) := wraps_u64 _ (by omega) (by have := HN.out; have := HL.out; omega)
        have hwh : wrap64 (h : Int) = (h : Int) := w64 rfl HX.out.2.2.2.2.2.2.1
        have hwy : wrap64 ((pp : Int) - (h : Int)) = (y : Int) := w64 HX.out.2.2.2.2.2.2.2.1 HX.out.2.2.2.2.2.2.2.2.1
        go_wp2_with fail
        refine start_ (n := 14) (S := fun w' => w'.cell? ⟨g, y * 4, none⟩ = some (.int .i64 p.1) ∧ w'.cell? ⟨g, y * 4 + 1, none⟩ = some (.slice p.2.1.1 p.2.1.2.1 p.2.1.2.2) ∧ w'.cell? ⟨g, y * 4 + 2, none⟩ = some (.slice p.2.2.1.1 p.2.2.1.2.1 p.2.2.1.2.2) ∧ w'.cell? ⟨g, y * 4 + 3, none⟩ = some (.int .u64 p.2.2.2) ∧ w'.cell? ⟨g, h * 4, none⟩ = some (.int .i64 q.1) ∧ w'.cell? ⟨g, h * 4 + 1, none⟩ = some (.slice q.2.1.1 q.2.1.2.1 q.2.1.2.2) ∧ w'.cell? ⟨g, h * 4 + 2, none⟩ = some (.slice q.2.2.1.1 q.2.2.1.2.1 q.2.2.1.2.2) ∧ w'.cell? ⟨g, h * 4 + 3, none⟩ = some (.int .u64 q.2.2.2)) (ds := []) #[false, false, false, false, false, false, false, false, false, false, false, false, false, false] (by kernel_rfl) rfl rfl ⟨d0, d1, d2, d3, c0, c1, c2, c3⟩ (fun hHeld => ?_)
        refine pure_ (i := 0) (N := some 158) (v := ?_) (a' := ?_) #[true, false, false, false, false, false, false, false, false, false, false, false, false, false] rfl rfl (by kernel_rfl) (fun _ _ _ h => h) (Or.inl ⟨by rfl, ?_⟩) ?_ ?_
        rotate_left
        · intro w'
          go_simp
          with_reducible rfl
        rotate_left
        · simp only [Act.put, List.setIfInBounds_toArray, List.set_cons_zero, List.set_cons_succ, i64_w, i32_w]
          rfl
        refine pure_ (i := 1) (N := some 159) (v := ?_) (a' := ?_) #[true, true, false, false, false, false, false, false, false, false, false, false, false, false] rfl rfl (by kernel_rfl) (fun _ _ _ h => h) (Or.inl ⟨by rfl, ?_⟩) ?_ ?_
        rotate_left
        · intro w'
          go_simp
          with_reducible rfl
        rotate_left
        · simp only [Act.put, List.setIfInBounds_toArray, List.set_cons_zero, List.set_cons_succ, i64_w, i32_w]
          rfl
        refine pure_ (i := 2) (N := some 160) (v := ?_) (a' := ?_) #[true, true, true, false, false, false, false, false, false, false, false, false, false, false] rfl rfl (by kernel_rfl) (fun _ _ _ h => h) (Or.inl ⟨by rfl, ?_⟩) ?_ ?_
        rotate_left
        · intro w'
          go_simp
          with_reducible rfl
        rotate_left
        · simp only [Act.put, List.setIfInBounds_toArray, List.set_cons_zero, List.set_cons_succ, i64_w, i32_w]
          rfl
        refine pure_ (i := 3) (N := some 161) (v := ?_) (a' := ?_) #[true, true, true, true, false, false, false, false, false, false, false, false, false, false] rfl rfl (by kernel_rfl) (fun _ _ _ h => h) (Or.inl ⟨by rfl, ?_⟩) ?_ ?_
        rotate_left
        · intro w'
          go_simp
          with_reducible rfl
        rotate_left
        · simp only [Act.put, List.setIfInBounds_toArray, List.set_cons_zero, List.set_cons_succ, i64_w, i32_w]
          rfl
        refine pure_ (i := 4) (N := some 162) (v := ?_) (a' := ?_) #[true, true, true, true, true, false, false, false, false, false, false, false, false, false] rfl rfl (by kernel_rfl) (fun _ _ _ h => h) (Or.inl ⟨by rfl, ?_⟩) ?_ ?_
        rotate_left
        · intro w'
          go_simp
          with_reducible rfl
        rotate_left
        · simp only [Act.put, List.setIfInBounds_toArray, List.set_cons_zero, List.set_cons_succ, i64_w, i32_w]
          rfl
        refine pure_ (i := 5) (N := some 163) (v := ?_) (a' := ?_) #[true, true, true, true, true, true, false, false, false, false, false, false, false, false] rfl rfl (by kernel_rfl) (fun _ _ _ h => h) (Or.inl ⟨by rfl, ?_⟩) ?_ ?_
        rotate_left
        · intro w'
          go_simp
          with_reducible rfl
        rotate_left
        · simp only [Act.put, List.setIfInBounds_toArray, List.set_cons_zero, List.set_cons_succ, i64_w, i32_w]
          rfl
        refine pure_ (i := 7) (N := some 165) (v := ?_) (a' := ?_) #[true, true, true, true, true, true, false, true, false, false, false, false, false, false] rfl rfl (by kernel_rfl) (fun _ _ _ h => h) (Or.inl ⟨by rfl, ?_⟩) ?_ ?_
        rotate_left
        · intro w'
          go_simp
          with_reducible rfl
        rotate_left
        · simp only [Act.put, List.setIfInBounds_toArray, List.set_cons_zero, List.set_cons_succ, i64_w, i32_w]
          rfl
        refine pure_ (i := 8) (N := some 166) (v := ?_) (a' := ?_) #[true, true, true, true, true, true, false, true, true, false, false, false, false, false] rfl rfl (by kernel_rfl) (fun _ _ _ h => h) (Or.inl ⟨by rfl, ?_⟩) ?_ ?_
        rotate_left
        · intro w'
          go_simp
          with_reducible rfl
        rotate_left
        · simp only [Act.put, List.setIfInBounds_toArray, List.set_cons_zero, List.set_cons_succ, i64_w, i32_w]
          rfl
        refine pure_ (i := 9) (N := some 167) (v := ?_) (a' := ?_) #[true, true, true, true, true, true, false, true, true, true, false, false, false, false] rfl rfl (by kernel_rfl) (fun _ _ _ h => h) (Or.inl ⟨by rfl, ?_⟩) ?_ ?_
        rotate_left
        · intro w'
          go_simp
          with_reducible rfl
        rotate_left
        · simp only [Act.put, List.setIfInBounds_toArray, List.set_cons_zero, List.set_cons_succ, i64_w, i32_w]
          rfl
        refine take_ (i := 6) (N := some 164) (v := ?_) (a' := ?_) #[true, true, true, true, true, true, true, true, true, true, false, false, false, false] rfl rfl (by kernel_rfl) (fun _ _ _ h => h) (Or.inl ⟨by rfl, ?_⟩) hHeld ?_ ?_
        rotate_left
        · rintro w' ⟨s0, s1, s2, s3, s4, s5, s6, s7⟩
          go_simp
          with_reducible rfl
        rotate_left
        · simp only [Act.put, List.setIfInBounds_toArray, List.set_cons_zero, List.set_cons_succ, i64_w, i32_w]
          rfl
        refine take_ (i := 10) (N := some 168) (v := ?_) (a' := ?_) #[true, true, true, true, true, true, true, true, true, true, true, false, false, false] rfl rfl (by kernel_rfl) (fun _ _ _ h => h) (Or.inl ⟨by rfl, ?_⟩) hHeld ?_ ?_
        rotate_left
        · rintro w' ⟨s0, s1, s2, s3, s4, s5, s6, s7⟩
          go_simp
          with_reducible rfl
        rotate_left
        · simp only [Act.put, List.setIfInBounds_toArray, List.set_cons_zero, List.set_cons_succ, i64_w, i32_w]
          rfl
        refine one_ (i := 11) (N := some 169) #[true, true, true, true, true, true, true, true, true, true, true, true, false, false] rfl rfl (by kernel_rfl) (by decide) (fun K hK => ?_)
        refine goesv_ HF.out HNm.out HBd.out (#[.agg #[.int .i64 p.1, .slice p.2.1.1 p.2.1.2.1 p.2.1.2.2, .slice p.2.2.1.1 p.2.2.1.2.1 p.2.2.1.2.2, .int .u64 p.2.2.2], .agg #[.int .i64 q.1, .slice q.2.1.1 q.2.1.2.1 q.2.1.2.2, .slice q.2.2.1.1 q.2.2.1.2.1 q.2.2.1.2.2, .int .u64 q.2.2.2]]) (by rfl) rfl rfl rfl (by simp only [List.map_toArray, List.map_cons, List.map_nil]; rfl) ?_
        with_reducible refine (HC.out _ (grown_drew HR.out.grown)).mono ?_
        rintro e w3 ⟨rfl, hb⟩
        refine ⟨_, rfl, ?_⟩
        have hbx := Aside0.mk (below_then (below_drew (Below.refl _ _)) (Nat.le_refl _) hb)
        have HR3 := Aside0.mk (HR.out.below hbx.out)
        clear hb
        refine hK.out _ _ ⟨(pw_cell_below hbx.out d0), (pw_cell_below hbx.out d1), (pw_cell_below hbx.out d2), (pw_cell_below hbx.out d3), (pw_cell_below hbx.out c0), (pw_cell_below hbx.out c1), (pw_cell_below hbx.out c2), (pw_cell_below hbx.out c3)⟩ (fun hHeld => ?_)
        clear hK K
        refine norm_ (a' := ?_) ?_ ?_
        rotate_left
        · show Act.put _ (some 169) _ = _
          simp only [Act.put, List.setIfInBounds_toArray, List.set_cons_zero, List.set_cons_succ, i64_w, i32_w]
          rfl
        refine pure_ (i := 12) (N := some 170) (v := ?_) (a' := ?_) #[true, true, true, true, true, true, true, true, true, true, true, true, true, false] rfl rfl (by kernel_rfl) (fun _ _ _ h => h) (Or.inl ⟨by rfl, ?_⟩) ?_ ?_
        rotate_left
        · intro w'
          go_simp
          with_reducible rfl
        rotate_left
        · simp only [Act.put, List.setIfInBounds_toArray, List.set_cons_zero, List.set_cons_succ, i64_w, i32_w]
          rfl
        refine pure_ (i := 13) (N := some 171) (v := ?_) (a' := ?_) #[true, true, true, true, true, true, true, true, true, true, true, true, true, true] rfl rfl (by kernel_rfl) (fun _ _ _ h => h) (Or.inl ⟨by rfl, ?_⟩) ?_ ?_
        rotate_left
        · intro w'
          go_simp
          with_reducible rfl
        rotate_left
        · simp only [Act.put, List.setIfInBounds_toArray, List.set_cons_zero, List.set_cons_succ, i64_w, i32_w]
          rfl
        refine done_ (by kernel_rfl) ?_
        clear hHeld d0 d1 d2 d3 c0 c1 c2 c3 HR HC hbx
        by_cases hc : cf p q < 0
        · have hcd : decide (cf p q < 0) = true := decide_eq_true hc
          have HCq := Aside0.mk hc
          clear hc
          rw [hcd]; simp only [Bool.not_true, Bool.not_false]
          go_wp2_with fail
          go_roundw
          case rel => exact .mk i h rfl rfl hi1 (by have := HX.out; clear hwu hwh hwy; omega) (by have := HX.out; clear hwu hwh hwy; omega) (fun h => Int.not_lt.2 (HI.out h)) (fun _ => by rw [HPq.out.1, HPq.out.2]; exact HCq.out) HR3.out
          case measure => have := HX.out; clear hwu hwh hwy; simp [intOf]; omega
        · have hcd : decide (cf p q < 0) = false := decide_eq_false hc
          have HCq := Aside0.mk (Int.not_lt.1 hc)
          clear hc
          rw [hcd]; simp only [Bool.not_true, Bool.not_false]
          go_wp2_with fail
          go_roundw
          case rel => exact .mk (h + 1) j (by clear hwu hwh hwy; go_num) rfl (by have := HX.out; clear hwu hwh hwy; omega) (by have := HX.out; clear hwu hwh hwy; omega) hj1 (fun _ => by rw [Nat.add_sub_cancel, HPq.out.1, HPq.out.2]; exact Int.not_lt.2 HCq.out) HJ.out HR3.out
          case measure => have := HX.out; clear hwu hwh hwy; simp [intOf]; omega
      · obtain rfl : i = j := by omega
        have t3 : decide (i < i) = false := decide_eq_false (by omega)
        clear hlt
        obtain ⟨e, he⟩ : ∃ e, e = nn - i := ⟨_, rfl⟩
        have HE := Aside0.mk (show a ≤ i ∧ i ≤ m ∧ m ≤ e ∧ e ≤ b ∧ i + (e - m) = mid ∧ (nn : Int) - (i : Int) = (e : Int) ∧ nn = i + e ∧ a < mid ∧ mid < b ∧ b ≤ n by have := HN.out; have := HL.out; omega)
        have HC1 := Aside0.mk (show a < i → e < b → ¬ cf (at_ xs e) (at_ xs (i - 1)) < 0 from fun h1 h2 => by
          have := HN.out; have := HL.out; have := HE.out
          have h3 : lo < i := by omega
          have h4 := HI.out h3
          rw [show pp - (i - 1) = e by omega] at h4
          first | exact h4 | exact Int.not_lt.2 h4)
        have HC2 := Aside0.mk (show i < m → m < e → cf (at_ xs (e - 1)) (at_ xs i) < 0 from fun h1 h2 => by
          have := HN.out; have := HL.out; have := HE.out
          have h3 : i < hi := by omega
          have h4 := HJ.out h3
          rw [show pp - i = e - 1 by omega] at h4
          exact h4)
        have e4 := HE.out.2.2.2.2.2.1
        have wb : nn ≤ 2305843009213693952 ∧ i ≤ nn ∧ m ≤ n := by have := HE.out; have := WB.out; omega
        clear he hi1 hij hj1 HI HJ
        go_upto_region 39 with fail
        go_cut [185] (fun sv wx => RelE w base ok g n c xs xs i m e sv wx)
        case first => as_aux_lemma =>
          by_cases q1 : i < m
          · have q1i : (i : Int) < (m : Int) := by omega
            by_cases q2 : m < e
            · have q2i : (m : Int) < (e : Int) := by omega
              have Q1 := Aside0.mk q1
              have Q2 := Aside0.mk q2
              clear q1 q2
              go_wp2_with fail
              go_meet
              exact .mk true rfl (fun _ => ⟨Q1.out, Q2.out⟩) (fun h => by cases h) HR.out
            · have q2i : decide ((m : Int) < (e : Int)) = false := decide_eq_false (by omega)
              have q2j : decide (m < e) = false := decide_eq_false q2
              have Q2 := Aside0.mk (Nat.not_lt.1 q2)
              clear q1 q2
              go_wp2_with fail
              go_meet
              exact .mk false rfl (fun h => by cases h) (fun _ => .inr Q2.out) HR.out
          · have q1i : decide ((i : Int) < (m : Int)) = false := decide_eq_false (by omega)
            have q1j : decide (i < m) = false := decide_eq_false q1
            have Q1 := Aside0.mk (Nat.not_lt.1 q1)
            clear q1
            go_wp2_with fail
            go_meet
            exact .mk false rfl (fun h => by cases h) (fun _ => .inl Q1.out) HR.out
        case rest => as_aux_lemma =>
          clear HR
          obtain ⟨t, rfl, hy, hno, hR⟩ := hcut
          have HY := Aside0.mk hy
          have HNo := Aside0.mk hno
          have HR := Aside0.mk hR
          clear hy hno hR
          go_upto_if 185 with fail
          go_cut [] (fun wx => RelD w base ok g n c xs i m e wx)
          case first => as_aux_lemma =>
            cases t with
            | true =>
              have HCa := Aside0.mk (fun wx (hr : RS w wx base ok g n c xs xs) => rot_calls (.func (.func f) #[] #[]) g c n i m e xs wx base ok hr.row (HY.out (by first | rfl | trivial)).1 (HY.out (by first | rfl | trivial)).2 (by have := HE.out; omega) (by omega))
              go_wp2_with (first | (go_at_call 59; refine (HCa.out _ HR.out).mono ?_; rintro e w4 ⟨rfl, zs, hr4, hs4⟩; have HR4 := Aside0.mk (HR.out.trans hr4); have HS4 := Aside0.mk hs4; clear hr4 hs4) | fail)
              go_meet
              exact .mk zs HR4.out HS4.out
            | false =>
              go_wp2_with fail
              go_meet
              refine .mk xs HR.out ?_
              have := HE.out
              rcases HNo.out (by first | rfl | trivial) with h | h
              · obtain rfl : i = m := by omega
                exact (rot_none1 i e _).symm
              · obtain rfl : m = e := by omega
                exact (rot_none2 i m _).symm
          case rest => as_aux_lemma =>
            clear HR
            obtain ⟨ys, hR, hS⟩ := hcut
            have HR := Aside0.mk hR
            have HS := Aside0.mk hS
            clear hR hS HY HNo
            have HX := Aside0.mk (show ∀ i' j, a ≤ i' → i' < mid → mid ≤ j → j < b → ¬ cf (at_ ys j) (at_ ys i') < 0 by have hE := HE.out; rw [HS.out, ← hE.2.2.2.2.1]; exact sym_cross HP.out H1.out H2.out hE.1 hE.2.1 hE.2.2.1 hE.2.2.2.1 HC1.out HC2.out)
            have HO1 := Aside0.mk (show SrtOn cf (at_ ys) a i by have hE := HE.out; rw [HS.out]; exact sym_one H1.out hE.2.1 hE.2.2.1)
            have HO2 := Aside0.mk (show SrtOn cf (at_ ys) i mid by have hE := HE.out; rw [HS.out, ← hE.2.2.2.2.1]; exact sym_two H2.out hE.2.1 hE.2.2.1 hE.2.2.2.1)
            have HO3 := Aside0.mk (show SrtOn cf (at_ ys) mid e by have hE := HE.out; rw [HS.out, ← hE.2.2.2.2.1]; exact sym_three H1.out hE.1 hE.2.1 hE.2.2.1)
            have HO4 := Aside0.mk (show SrtOn cf (at_ ys) e b by have hE := HE.out; rw [HS.out]; exact sym_four H2.out hE.2.1 hE.2.2.1)
            have HIn := Aside0.mk (show In a b (at_ xs) (at_ ys) by have hE := HE.out; rw [HS.out]; exact (rot_in hE.2.1 hE.2.2.1).wide hE.1 hE.2.2.2.1)
            clear HS HC1 HC2 H1 H2
            go_upto_region 41 with fail
            go_cut [199] (fun sv wx => RelE w base ok g n c xs ys a i mid sv wx)
            case first => as_aux_lemma =>
              by_cases q1 : a < i
              · have q1i : (a : Int) < (i : Int) := by omega
                by_cases q2 : i < mid
                · have q2i : (i : Int) < (mid : Int) := by omega
                  have Q1 := Aside0.mk q1
                  have Q2 := Aside0.mk q2
                  clear q1 q2
                  go_wp2_with fail
                  go_meet
                  exact .mk true rfl (fun _ => ⟨Q1.out, Q2.out⟩) (fun h => by cases h) HR.out
                · have q2i : decide ((i : Int) < (mid : Int)) = false := decide_eq_false (by omega)
                  have q2j : decide (i < mid) = false := decide_eq_false q2
                  have Q2 := Aside0.mk (Nat.not_lt.1 q2)
                  clear q1 q2
                  go_wp2_with fail
                  go_meet
                  exact .mk false rfl (fun h => by cases h) (fun _ => .inr Q2.out) HR.out
              · have q1i : decide ((a : Int) < (i : Int)) = false := decide_eq_false (by omega)
                have q1j : decide (a < i) = false := decide_eq_false q1
                have Q1 := Aside0.mk (Nat.not_lt.1 q1)
                clear q1
                go_wp2_with fail
                go_meet
                exact .mk false rfl (fun h => by cases h) (fun _ => .inl Q1.out) HR.out
            case rest => as_aux_lemma =>
              clear HR
              obtain ⟨t, rfl, hy, hno, hR⟩ := hcut
              have HY := Aside0.mk hy
              have HNo := Aside0.mk hno
              have HR := Aside0.mk hR
              clear hy hno hR
              go_upto_if 199 with fail
              go_cut [] (fun wx => RelF cf w base ok g n c xs ys a mid wx)
              case first => as_aux_lemma =>
                cases t with
                | true =>
                  have HCa := Aside0.mk (fun wx (hr : RS w wx base ok g n c xs ys) => HIH.out a i mid ys wx (by have := HE.out; omega) (HY.out (by first | rfl | trivial)).1 (HY.out (by first | rfl | trivial)).2 (by have := HE.out; omega) hr.row (HCmp.out.next hr) HO1.out HO2.out)
                  go_wp2_with (first | (go_at_call 58; refine (HCa.out _ HR.out).mono ?_; rintro e w4 ⟨rfl, zs, hr4, hi4, hs4⟩; have HR4 := Aside0.mk (HR.out.trans hr4); have HI4 := Aside0.mk hi4; have HS4 := Aside0.mk hs4; clear hr4 hs4 hi4) | fail)
                  go_meet
                  exact .mk zs HR4.out HI4.out HS4.out
                | false =>
                  go_wp2_with fail
                  go_meet
                  refine .mk ys HR.out (In.refl _ _ _) ?_
                  have := HE.out
                  rcases HNo.out (by first | rfl | trivial) with h | h
                  · obtain rfl : a = i := by omega
                    exact HO2.out
                  · obtain rfl : i = mid := by omega
                    exact HO1.out
              case rest => as_aux_lemma =>
                clear HR
                obtain ⟨zs, hR, hIz, hSz⟩ := hcut
                have HR := Aside0.mk hR
                have HIz := Aside0.mk hIz
                have HSz := Aside0.mk hSz
                clear hR hIz hSz HY HNo
                replace HO3 := Aside0.mk (HO3.out.out HIz.out (.inr (Nat.le_refl _)))
                replace HO4 := Aside0.mk (HO4.out.out HIz.out (.inr (by have := HE.out; omega)))
                go_upto_region 43 with fail
                go_cut [213] (fun sv wx => RelE w base ok g n c xs zs mid e b sv wx)
                case first => as_aux_lemma =>
                  by_cases q1 : mid < e
                  · have q1i : (mid : Int) < (e : Int) := by omega
                    by_cases q2 : e < b
                    · have q2i : (e : Int) < (b : Int) := by omega
                      have Q1 := Aside0.mk q1
                      have Q2 := Aside0.mk q2
                      clear q1 q2
                      go_wp2_with fail
                      go_meet
                      exact .mk true rfl (fun _ => ⟨Q1.out, Q2.out⟩) (fun h => by cases h) HR.out
                    · have q2i : decide ((e : Int) < (b : Int)) = false := decide_eq_false (by omega)
                      have q2j : decide (e < b) = false := decide_eq_false q2
                      have Q2 := Aside0.mk (Nat.not_lt.1 q2)
                      clear q1 q2
                      go_wp2_with fail
                      go_meet
                      exact .mk false rfl (fun h => by cases h) (fun _ => .inr Q2.out) HR.out
                  · have q1i : decide ((mid : Int) < (e : Int)) = false := decide_eq_false (by omega)
                    have q1j : decide (mid < e) = false := decide_eq_false q1
                    have Q1 := Aside0.mk (Nat.not_lt.1 q1)
                    clear q1
                    go_wp2_with fail
                    go_meet
                    exact .mk false rfl (fun h => by cases h) (fun _ => .inl Q1.out) HR.out
                case rest => as_aux_lemma =>
                  clear HR
                  obtain ⟨t, rfl, hy, hno, hR⟩ := hcut
                  have HY := Aside0.mk hy
                  have HNo := Aside0.mk hno
                  have HR := Aside0.mk hR
                  clear hy hno hR
                  cases t with
                  | true =>
                    have HCa := Aside0.mk (fun wx (hr : RS w wx base ok g n c xs zs) => HIH.out mid e b zs wx (by have := HE.out; omega) (HY.out (by first | rfl | trivial)).1 (HY.out (by first | rfl | trivial)).2 (by have := HE.out; omega) hr.row (HCmp.out.next hr) HO3.out HO4.out)
                    go_wp2_with (first | (go_at_call 58; refine (HCa.out _ HR.out).mono ?_; rintro e w4 ⟨rfl, us, hr4, hi4, hs4⟩; have HR4 := Aside0.mk (HR.out.trans hr4); have HI4 := Aside0.mk hi4; have HS4 := Aside0.mk hs4; clear hr4 hs4 hi4) | fail)
                    go_end0
                    have HE2 := HE.out
                    have i1 : In a b (at_ ys) (at_ zs) := HIz.out.wide (Nat.le_refl _) (by omega)
                    have i2 : In a b (at_ zs) (at_ us) := HI4.out.wide (by omega) (Nat.le_refl _)
                    have i3 : In a b (at_ xs) (at_ us) := In.trans HIn.out (In.trans i1 i2)
                    have i4 : SrtOn cf (at_ us) a b := sym_done (f := at_ ys) (g := at_ ys) (k := at_ zs) (h := at_ us) HIz.out HSz.out HI4.out HS4.out (fun i j x y z u => by first | exact HX.out i j x y z u | exact Int.not_lt.2 (HX.out i j x y z u))
                    exact ⟨rfl, us, HR4.out, i3, i4⟩
                  | false =>
                    go_wp2_with fail
                    go_end0
                    have HE2 := HE.out
                    have i1 : In a b (at_ ys) (at_ zs) := HIz.out.wide (Nat.le_refl _) (by omega)
                    have i3 : In a b (at_ xs) (at_ zs) := In.trans HIn.out i1
                    refine ⟨rfl, zs, HR.out, i3, ?_⟩
                    refine sym_done (f := at_ ys) (g := at_ ys) (k := at_ zs) (h := at_ zs) HIz.out HSz.out (In.refl mid b (at_ zs)) ?_ (fun i j x y z u => by first | exact HX.out i j x y z u | exact Int.not_lt.2 (HX.out i j x y z u))
                    rcases HNo.out (by first | rfl | trivial) with h | h
                    · obtain rfl : mid = e := by omega
                      exact HO4.out
                    · obtain rfl : e = b := by omega
                      exact HO3.out
theorem sym_all (cf : Q → Q → Int) (hp : Pre cf) (f : FuncId) (fn : Func) (hf : Try.prog.funcs[f]? = some fn) (hname : (fn.name == "runtime.NumGoroutine") = false) (hbody : fn.body.isSome = true) (g c n : Nat) (base : Nat) (ok : Nat → Prop) (hn : n ≤ 1152921504606846976) : ∀ (N a m b : Nat) (xs : List Q) (w : World), b - a < N → a < m → m < b → b ≤ n →
    kq.R 40 w base ok (.slice (some ⟨g, 0, none⟩) n c) xs → CmpOk f cf w g xs → SrtOn cf (at_ xs) a m → SrtOn cf (at_ xs) m b →
    Calls Try.prog 58 #[.slice (some ⟨g, 0, none⟩) n c, .int .i64 a, .int .i64 m, .int .i64 b, .func (.func f) #[] #[]] w fun e w' => e = .returned (.tuple #[]) ∧ ∃ ys, RS w w' base ok g n c xs ys ∧ In a b (at_ xs) (at_ ys) ∧ SrtOn cf (at_ ys) a b
  | 0, a, m, b, xs, w, h, _, _, _, _, _, _, _ => absurd h (Nat.not_lt_zero _)
  | N + 1, a, m, b, xs, w, hN, ham, hmb, hb, hrow, hcmp, h1, h2 => by
    by_cases c1 : m = a + 1
    · exact sym1_calls cf hp f fn hf hname hbody g c n base ok hn a m b xs w hrow hcmp h1 h2 c1 hmb hb
    · by_cases c2 : b = m + 1
      · exact sym2_calls cf hp f fn hf hname hbody g c n base ok hn a m b xs w hrow hcmp h1 h2 (by omega) c2 hb
      · exact sym3_calls cf hp f fn hf hname hbody g c n base ok hn a m b xs w hrow hcmp h1 h2 (by omega) (by omega) hb (fun a' m' b' xs' w' h => sym_all cf hp f fn hf hname hbody g c n base ok hn N a' m' b' xs' w' (by omega))
end Go.Proofs.Ytfeeahjaeapkoaa.Ext
end

section
namespace Go.Proofs.Ytfeeahjaeapkoaa.Ext
set_option linter.unusedVariables false
set_option linter.unusedSimpArgs false
open Go.RowKit Go.Proofs.YtfeeahjaeapkoaaW.PrintWords Go.Proofs.YtfeeahjaeapkoaaW.PrintLast Go.Proofs.YtfeeahjaeapkoaaW.PrintMore Go.Proofs.Ytfeeahjaeapkoaa.Lib
def Blk (cf : Q → Q → Int) (f : Nat → Q) (k h : Nat) : Prop := ∀ q i j, q * k ≤ i → i ≤ j → j < q * k + k → j < h → ¬ cf (f j) (f i) < 0
theorem Blk.on {cf : Q → Q → Int} {f : Nat → Q} {k h : Nat} (hb : Blk cf f k h) (q : Nat) {b : Nat} (h1 : b ≤ q * k + k) (h2 : b ≤ h) : SrtOn cf f (q * k) b := fun i j x y z => hb q i j x y (by omega) (by omega)
theorem Blk.zero (cf : Q → Q → Int) (f : Nat → Q) (k : Nat) : Blk cf f k 0 := fun _ _ _ _ _ _ h => absurd h (Nat.not_lt_zero _)
theorem Blk.one {cf : Q → Q → Int} {f : Nat → Q} {k h : Nat} (hb : Blk cf f k h) (hk : h ≤ k) : SrtOn cf f 0 h := fun i j x y z => hb 0 i j (by omega) y (by omega) z
theorem Blk.next {cf : Q → Q → Int} {f g : Nat → Q} {k a b q : Nat} (ha : a = q * k) (hb : b ≤ a + k) (h : Blk cf f k a) (hi : In a b f g) (hs : SrtOn cf g a b) : Blk cf g k b := fun q2 i j x y z u => by
  rcases Nat.lt_trichotomy q2 q with h1 | h1 | h1
  · have e : q2 * k + k ≤ q * k := by have := Nat.mul_le_mul_right k (show q2 + 1 ≤ q from h1); rwa [Nat.succ_mul] at this
    rw [hi.out i (by omega), hi.out j (by omega)]
    exact h q2 i j x y z (by omega)
  · subst h1; exact hs i j (by omega) y u
  · have e : q * k + k ≤ q2 * k := by have := Nat.mul_le_mul_right k (show q + 1 ≤ q2 from h1); rwa [Nat.succ_mul] at this
    omega
theorem insI_range {cf : Q → Q → Int} (hp : Pre cf) : ∀ (n : Nat) (A t R B : List Q), R.length = n → t.Pairwise (fun y z => ¬ cf y z < 0) → ∃ s : List Q, insI cf A.length n (A.length + t.length) (A ++ t.reverse ++ (R ++ B)) = A ++ s.reverse ++ B ∧ s.Pairwise (fun y z => ¬ cf y z < 0) ∧ s.Perm (R ++ t)
  | 0, A, t, R, B, hR, ht => by
    have e : R = [] := List.eq_nil_of_length_eq_zero hR
    subst e
    exact ⟨t, by rw [insI, List.nil_append], ht, List.Perm.refl _⟩
  | n + 1, A, t, R, B, hR, ht => by
    obtain ⟨x, r, rfl⟩ : ∃ x r, R = x :: r := by
      cases R with
      | nil => cases hR
      | cons x r => exact ⟨x, r, rfl⟩
    have h1 := insJ_rev cf x t A (r ++ B)
    have hl : (insRev cf x t).length = t.length + 1 := by
      have := congrArg List.length h1
      rw [insJ_length] at this
      simp at this
      omega
    have hperm : ∀ t : List Q, (insRev cf x t).Perm (x :: t) := by
      intro t
      induction t with
      | nil => exact List.Perm.refl _
      | cons y t ih =>
        rw [insRev]
        split
        · exact (List.Perm.cons y ih).trans (List.Perm.swap x y t)
        · exact List.Perm.refl _
    obtain ⟨s, h2, h3, h4⟩ := insI_range hp n A (insRev cf x t) r B (by simpa using hR) (insRev_desc hp x t ht)
    refine ⟨s, ?_, h3, h4.trans ((List.Perm.append_left r (hperm t)).trans ?_)⟩
    · rw [insI, show A ++ t.reverse ++ (x :: r ++ B) = A ++ t.reverse ++ x :: (r ++ B) from rfl, h1, show A.length + t.length + 1 = A.length + (insRev cf x t).length by omega]
      exact h2
    · exact List.perm_middle
theorem getD_mid {A M B : List Q} {i : Nat} (h1 : A.length ≤ i) (h2 : i < A.length + M.length) : (A ++ M ++ B).getD i zQ = M.getD (i - A.length) zQ := by
  rw [List.getD_eq_getElem?_getD, List.getElem?_append_left (by rw [List.length_append]; omega), List.getElem?_append_right h1, ← List.getD_eq_getElem?_getD]
theorem getD_out {A M M' B : List Q} {i : Nat} (hl : M.length = M'.length) (h : i < A.length ∨ A.length + M.length ≤ i) : (A ++ M ++ B).getD i zQ = (A ++ M' ++ B).getD i zQ := by
  rw [List.getD_eq_getElem?_getD, List.getD_eq_getElem?_getD]
  by_cases c : i < A.length
  · rw [List.append_assoc, List.append_assoc, List.getElem?_append_left c, List.getElem?_append_left c]
  · rw [List.getElem?_append_right (by rw [List.length_append]; omega), List.getElem?_append_right (by rw [List.length_append]; omega), List.length_append, List.length_append, hl]
theorem ins_range {cf : Q → Q → Int} (hp : Pre cf) (xs : List Q) (a b : Nat) (hab : a ≤ b) (hb : b ≤ xs.length) : In a b (at_ xs) (at_ (insI cf a (b - (a + 1)) (a + 1) xs)) ∧ SrtOn cf (at_ (insI cf a (b - (a + 1)) (a + 1) xs)) a b := by
  by_cases c : b ≤ a + 1
  · rw [show b - (a + 1) = 0 by omega, insI]
    exact ⟨In.refl _ _ _, fun i j x y z => by
      obtain rfl : i = j := by omega
      exact fun h => hp.asym _ _ h h⟩
  · have ha : a < xs.length := by omega
    have e : xs = xs.take a ++ [xs[a]].reverse ++ ((xs.drop (a + 1)).take (b - (a + 1)) ++ xs.drop b) := by
      have e2 : (xs.drop (a + 1)).drop (b - (a + 1)) = xs.drop b := by rw [List.drop_drop, show a + 1 + (b - (a + 1)) = b by omega]
      rw [← e2, List.take_append_drop, List.reverse_singleton, List.append_assoc, List.singleton_append, ← List.drop_eq_getElem_cons ha, List.take_append_drop]
    have hA : (xs.take a).length = a := by rw [List.length_take]; omega
    have hR : ((xs.drop (a + 1)).take (b - (a + 1))).length = b - (a + 1) := by rw [List.length_take, List.length_drop]; omega
    obtain ⟨s, h1, h2, h3⟩ := insI_range hp (b - (a + 1)) (xs.take a) [xs[a]] _ (xs.drop b) hR (List.pairwise_singleton _ _)
    rw [hA, List.length_singleton, ← e] at h1
    have hs : s.length = b - a := by have := h3.length_eq; simp at this; omega
    have e2 : xs = xs.take a ++ (([xs[a]].reverse) ++ (xs.drop (a + 1)).take (b - (a + 1))) ++ xs.drop b := by
      conv => lhs; rw [e]
      simp only [List.append_assoc]
    have hm : (([xs[a]].reverse) ++ (xs.drop (a + 1)).take (b - (a + 1))).length = b - a := by rw [List.length_append, hR]; simp; omega
    have hmem : ∀ z, z ∈ s.reverse → z ∈ (([xs[a]].reverse) ++ (xs.drop (a + 1)).take (b - (a + 1))) := fun z hz => by
      have := h3.mem_iff.1 (List.mem_reverse.1 hz)
      simp at this ⊢
      exact this.symm
    rw [h1]
    generalize ([xs[a]].reverse) ++ (xs.drop (a + 1)).take (b - (a + 1)) = M at *
    generalize xs.take a = A at *
    generalize xs.drop b = B at *
    subst hA
    have hsr : s.reverse.length = b - A.length := by rw [List.length_reverse]; exact hs
    refine ⟨⟨fun i hi => ?_, fun i x y => ?_⟩, fun i j x y z => ?_⟩
    · show (A ++ s.reverse ++ B).getD i zQ = xs.getD i zQ
      rw [e2]
      exact getD_out (by omega) (by omega)
    · have : (A ++ s.reverse ++ B).getD i zQ ∈ M := by
        rw [getD_mid x (by omega)]
        apply hmem
        rw [List.getD_eq_getElem?_getD, List.getElem?_eq_getElem (by omega)]
        exact List.getElem_mem _
      obtain ⟨k, hk, hk2⟩ := List.getElem_of_mem this
      refine ⟨A.length + k, by omega, by omega, ?_⟩
      have r : (A ++ M ++ B).getD (A.length + k) zQ = M[k] := by rw [getD_mid (by omega) (by omega), Nat.add_sub_cancel_left, List.getD_eq_getElem?_getD, List.getElem?_eq_getElem hk]; rfl
      show (A ++ s.reverse ++ B).getD i zQ = xs.getD (A.length + k) zQ
      rw [e2, r]
      exact hk2.symm
    · show ¬ cf ((A ++ s.reverse ++ B).getD j zQ) ((A ++ s.reverse ++ B).getD i zQ) < 0
      rw [getD_mid (by omega) (by omega), getD_mid x (by omega)]
      by_cases e3 : i = j
      · subst e3; exact fun h => hp.asym _ _ h h
      · have hpw : s.reverse.Pairwise (fun x y => ¬ cf y x < 0) := by rw [List.pairwise_reverse]; exact h2
        have := List.pairwise_iff_getElem.1 hpw (i - A.length) (j - A.length) (by omega) (by omega) (by omega)
        rw [List.getD_eq_getElem?_getD, List.getElem?_eq_getElem (by omega), List.getD_eq_getElem?_getD, List.getElem?_eq_getElem (by omega)]
        exact this
end Go.Proofs.Ytfeeahjaeapkoaa.Ext
end

section
namespace Go.Proofs.Ytfeeahjaeapkoaa.Ext
set_option linter.unusedVariables false
set_option linter.unusedSimpArgs false
open Go.RowKit Go.Proofs.YtfeeahjaeapkoaaW.PrintWords Go.Proofs.YtfeeahjaeapkoaaW.PrintLast Go.Proofs.YtfeeahjaeapkoaaW.PrintMore Go.Proofs.Ytfeeahjaeapkoaa.Lib
inductive RelS (cf : Q → Q → Int) (w : World) (base : Nat) (ok : Nat → Prop) (g n c : Nat) (xs : List Q) (k : Nat) (v1 v2 : Value) (w' : World) : Prop
  | mk (q a b : Nat) (ys : List Q) (e1 : v1 = .int .i64 a) (e2 : v2 = .int .i64 b) (ha : a = q * k) (hb : b = a + k) (hn : a ≤ n) (hrs : RS w w' base ok g n c xs ys) (hd : Blk cf (at_ ys) k a)
def Rest (cf : Q → Q → Int) (f : Nat → Q) (a k n : Nat) : Prop := ∀ p i j, a ≤ i → p * k ≤ i → i ≤ j → j < p * k + k → j < n → ¬ cf (f j) (f i) < 0
inductive RelM (cf : Q → Q → Int) (w : World) (base : Nat) (ok : Nat → Prop) (g n c : Nat) (xs : List Q) (k0 k2 : Nat) (v1 v2 : Value) (w' : World) : Prop
  | mk (q a b : Nat) (ys : List Q) (e1 : v1 = .int .i64 a) (e2 : v2 = .int .i64 b) (ha : a = q * k2) (hb : b = a + k2) (hn : a ≤ n) (hrs : RS w w' base ok g n c xs ys) (hd : Blk cf (at_ ys) k2 a) (ho : Rest cf (at_ ys) a k0 n)
inductive RelO (cf : Q → Q → Int) (w : World) (base : Nat) (ok : Nat → Prop) (g n c : Nat) (xs : List Q) (v1 : Value) (w' : World) : Prop
  | mk (k : Nat) (ys : List Q) (e1 : v1 = .int .i64 k) (hk : 20 ≤ k) (hk2 : k ≤ 2 * n + 20) (hrs : RS w w' base ok g n c xs ys) (hd : Blk cf (at_ ys) k n)
theorem two_k (q k : Nat) : q * (2 * k) = 2 * q * k := by rw [← Nat.mul_assoc, Nat.mul_comm q 2]
theorem succ_k (q k : Nat) : (q + 1) * k = q * k + k := Nat.succ_mul q k
theorem merge_first {cf : Q → Q → Int} {f : Nat → Q} {q a k n : Nat} (ha : a = q * (2 * k)) (hn : a + k ≤ n) (ho : Rest cf f a k n) : SrtOn cf f a (a + k) := fun i j x y z => ho (2 * q) i j x (by rw [← two_k, ← ha]; exact x) y (by rw [← two_k, ← ha]; exact z) (by omega)
theorem merge_second {cf : Q → Q → Int} {f : Nat → Q} {q a b k n : Nat} (ha : a = q * (2 * k)) (hb : b ≤ a + 2 * k) (hn : b ≤ n) (ho : Rest cf f a k n) : SrtOn cf f (a + k) b := fun i j x y z => ho (2 * q + 1) i j (by omega) (by rw [succ_k, ← two_k, ← ha]; exact x) y (by rw [succ_k, ← two_k, ← ha]; omega) (by omega)
theorem merge_last {cf : Q → Q → Int} {f : Nat → Q} {q a k n : Nat} (ha : a = q * (2 * k)) (hn : n ≤ a + k) (ho : Rest cf f a k n) : SrtOn cf f a n := fun i j x y z => ho (2 * q) i j x (by rw [← two_k, ← ha]; exact x) y (by rw [← two_k, ← ha]; omega) z
theorem merge_rest {cf : Q → Q → Int} {f g : Nat → Q} {a b k n : Nat} (h : In a b f g) (ho : Rest cf f a k n) (hab : a ≤ b)   : Rest cf g b k n := fun p i j x y z u v => by
  rw [h.out i (.inr x), h.out j (.inr (by omega))]; exact ho p i j (by omega) y z u v
set_option maxRecDepth 100000 in
set_option maxHeartbeats 3200000 in
theorem stable_all (cf : Q → Q → Int) (hp : Pre cf) (f : FuncId) (fn : Func) (hf : Try.prog.funcs[f]? = some fn) (hname : (fn.name == "runtime.NumGoroutine") = false) (hbody : fn.body.isSome = true) (g c n : Nat) (base : Nat) (ok : Nat → Prop) (hn : n ≤ 1152921504606846976) (xs : List Q) (w : World)
    (hrow : kq.R 40 w base ok (.slice (some ⟨g, 0, none⟩) n c) xs) (hcmp : CmpOk f cf w g xs) :
    Calls Try.prog 52 #[.slice (some ⟨g, 0, none⟩) n c, .int .i64 n, .func (.func f) #[] #[]] w fun e w' => e = .returned (.tuple #[]) ∧ ∃ ys, RS w w' base ok g n c xs ys ∧ SrtOn cf (at_ ys) 0 n := by
  have HCmp := Aside0.mk hcmp
  have HP := Aside0.mk hp
  have HR := Aside0.mk (RS.refl hrow)
  have HIns := Aside0.mk (fun (a b : Nat) (ys : List Q) (w' : World) (hr : RS w w' base ok g n c xs ys) (hab : a ≤ b) (hb : b ≤ n) => ins_calls cf f fn hf hname hbody g c n a b ys w' base ok hr.row hab hb hn (hcmp.next hr) (RS.refl hr.row).grown)
  have HSym := Aside0.mk (fun (a m b : Nat) (ys : List Q) (w' : World) (hr : RS w w' base ok g n c xs ys) (ham : a < m) (hmb : m < b) (hb : b ≤ n) (h1 : SrtOn cf (at_ ys) a m) (h2 : SrtOn cf (at_ ys) m b) => sym_all cf hp f fn hf hname hbody g c n base ok hn (b - a + 1) a m b ys w' (by omega) ham hmb hb hr.row (hcmp.next hr) h1 h2)
  clear hf hname hbody hcmp hrow hp
  go_enter Try.func52, Try.ntmps52
  go_wp2_with fail
  go_loopw [7, 8] (fun v7 v8 w' => RelS cf w base ok g n c xs 20 v7 v8 w') (fun v7 _ _ => n - (intOf v7).toNat)
  case atStart => exact .mk 0 0 20 xs rfl rfl rfl rfl (Nat.zero_le _) HR.out (Blk.zero _ _ _)
  case round =>
    clear HR
    obtain ⟨q, a, b, ys, rfl, rfl, ha, hb, han, hR, hD⟩ := hrel
    have HR := Aside0.mk hR
    have HD := Aside0.mk hD
    have HA := Aside0.mk ha
    have HB := Aside0.mk hb
    clear hR hD ha hb
    by_cases hc : b ≤ n
    · have hci : (b : Int) ≤ (n : Int) := by omega
      have HC := Aside0.mk hc
      go_wp2_with (first | (go_at_call 57; refine (HIns.out a b ys _ HR.out (by have := HB.out; omega) HC.out).mono ?_; rintro e w4 ⟨rfl, hr4⟩; have HR4 := Aside0.mk (HR.out.trans hr4); clear hr4) | fail)
      go_roundw
      case rel => exact .mk (q + 1) b (b + 20) _ rfl (by go_num) (by have := HA.out; have := HB.out; omega) rfl HC.out HR4.out (by
        have hi := ins_range HP.out ys a b (by have := HB.out; omega) (by rw [HR.out.len]; exact HC.out)
        exact Blk.next HA.out (by have := HB.out; omega) HD.out hi.1 hi.2)
      case measure => have := HB.out; simp [intOf]; omega
    · have hci : decide ((b : Int) ≤ (n : Int)) = false := decide_eq_false (by omega)
      have hcj : decide (b ≤ n) = false := decide_eq_false hc
      have HC := Aside0.mk hc
      have hck : (n : Int) < (b : Int) := by omega
      clear hc
      go_wp2_with (first | (go_at_call 57; refine (HIns.out a n ys _ HR.out han (Nat.le_refl _)).mono ?_; rintro e w4 ⟨rfl, hr4⟩; have HR4 := Aside0.mk (HR.out.trans hr4); clear hr4) | fail)
      have HD4 := Aside0.mk (show Blk cf (at_ (insI cf a (n - (a + 1)) (a + 1) ys)) 20 n by
        have hi := ins_range HP.out ys a n han (by rw [HR.out.len]; exact Nat.le_refl _)
        exact Blk.next HA.out (by have := HB.out; have := HC.out; omega) HD.out hi.1 hi.2)
      clear hci hcj hck HR HD HA HB HC han
      generalize insI cf a (n - (a + 1)) (a + 1) ys = zs at *
      go_wp2_with fail
      go_loopw [6] (fun v6 w' => RelO cf w base ok g n c xs v6 w') (fun v6 _ => n - (intOf v6).toNat)
      case atStart => exact .mk 20 zs rfl (Nat.le_refl _) (by omega) HR4.out HD4.out
      case round => as_aux_lemma =>
        clear HR4 HD4
        obtain ⟨k, us, rfl, hk20, hk2n, hR, hD⟩ := hrel
        have HR := Aside0.mk hR
        have HD := Aside0.mk hD
        clear hR hD
        by_cases hkn : k < n
        · have hkn2 : (k : Int) < (n : Int) := by omega
          obtain ⟨k2, hk2⟩ : ∃ x, x = 2 * k := ⟨_, rfl⟩
          have HK2 := Aside0.mk hk2
          have e1 : 2 * (k : Int) = (k2 : Int) := by omega
          have e2 : (k : Int) * 2 = (k2 : Int) := by omega
          have hk3 : k2 ≤ 2305843009213693952 := by omega
          have HO := Aside0.mk (show Rest cf (at_ us) 0 k n from fun p i j _ y z u v => HD.out p i j y z u v)
          clear hk2
          go_wp2_with fail
          go_loopw [7, 8] (fun v7 v8 w' => RelM cf w base ok g n c xs k k2 v7 v8 w') (fun v7 _ _ => n - (intOf v7).toNat)
          case atStart => exact .mk 0 0 k2 us rfl rfl (Nat.zero_mul _).symm (Nat.zero_add _).symm (Nat.zero_le _) HR.out (Blk.zero _ _ _) HO.out
          case round => as_aux_lemma =>
            clear HR HD HO
            obtain ⟨q, a, b, ys, rfl, rfl, ha, hb, han, hR, hD, hO⟩ := hrel
            have HR := Aside0.mk hR
            have HD := Aside0.mk hD
            have HO := Aside0.mk hO
            have HA := Aside0.mk (show a = q * (2 * k) by rw [← HK2.out]; exact ha)
            have HA0 := Aside0.mk ha
            have HB := Aside0.mk hb
            obtain ⟨m, hm⟩ : ∃ x, x = a + k := ⟨_, rfl⟩
            have HM := Aside0.mk hm
            have em : (a : Int) + (k : Int) = (m : Int) := by omega
            have HBn := Aside0.mk (show b ≤ 4611686018427387904 by omega)
            clear hR hD hO ha hb hm
            by_cases hc : b ≤ n
            · have hci : (b : Int) ≤ (n : Int) := by omega
              have HC := Aside0.mk hc
              have HS := Aside0.mk (fun wx (hr : RS w wx base ok g n c xs ys) => HSym.out a m b ys wx hr (by have := HM.out; omega) (by have := HM.out; have := HB.out; have := HK2.out; omega) HC.out (by rw [HM.out]; exact merge_first HA.out (by have := HB.out; have := HK2.out; have := HC.out; omega) HO.out) (by rw [HM.out]; exact merge_second HA.out (by have := HB.out; have := HK2.out; omega) HC.out HO.out))
              go_wp2_with (first | (go_at_call 58; refine (HS.out _ HR.out).mono ?_; rintro e w4 ⟨rfl, zs, hr4, hi4, hs4⟩; have HR4 := Aside0.mk (HR.out.trans hr4); have HI4 := Aside0.mk hi4; have HS4 := Aside0.mk hs4; clear hr4 hi4 hs4) | fail)
              go_roundw
              case rel => exact .mk (q + 1) b (b + k2) zs rfl (by first | rfl | go_num) (by rw [Nat.succ_mul, ← HA0.out]; exact HB.out) rfl HC.out HR4.out (Blk.next HA0.out (by have := HB.out; omega) HD.out HI4.out HS4.out) (merge_rest HI4.out HO.out (by have := HB.out; omega))
              case measure => have := HB.out; have := HK2.out; simp [intOf]; omega
            · have hci : decide ((b : Int) ≤ (n : Int)) = false := decide_eq_false (by omega)
              have hcj : decide (b ≤ n) = false := decide_eq_false hc
              have HC := Aside0.mk hc
              have hck : (n : Int) < (b : Int) := by omega
              clear hc
              by_cases hd : m < n
              · have hdi : (m : Int) < (n : Int) := by omega
                have HDd := Aside0.mk hd
                have HS := Aside0.mk (fun wx (hr : RS w wx base ok g n c xs ys) => HSym.out a m n ys wx hr (by have := HM.out; omega) HDd.out (Nat.le_refl _) (by rw [HM.out]; exact merge_first HA.out (by have := HM.out; have := HDd.out; omega) HO.out) (by rw [HM.out]; exact merge_second HA.out (by have := HB.out; have := HK2.out; have := HC.out; omega) (Nat.le_refl _) HO.out))
                go_wp2_with (first | (go_at_call 58; refine (HS.out _ HR.out).mono ?_; rintro e w4 ⟨rfl, zs, hr4, hi4, hs4⟩; have HR4 := Aside0.mk (HR.out.trans hr4); have HI4 := Aside0.mk hi4; have HS4 := Aside0.mk hs4; clear hr4 hi4 hs4) | fail)
                go_roundw
                case rel => exact .mk k2 zs (by first | rfl | go_num) (by have := HK2.out; omega) (by have := HK2.out; omega) HR4.out (Blk.next HA0.out (by have := HB.out; have := HC.out; omega) HD.out HI4.out HS4.out)
                case measure => have := HK2.out; simp [intOf]; omega
              · have hdi : decide ((m : Int) < (n : Int)) = false := decide_eq_false (by omega)
                have hdj : decide (m < n) = false := decide_eq_false hd
                have HDd := Aside0.mk hd
                have hdk : (n : Int) ≤ (m : Int) := by omega
                clear hd
                go_wp2_with fail
                go_roundw
                case rel => exact .mk k2 ys (by first | rfl | go_num) (by have := HK2.out; omega) (by have := HK2.out; omega) HR.out (Blk.next HA0.out (by have := HB.out; have := HC.out; omega) HD.out (In.refl _ _ _) (merge_last HA.out (by have := HM.out; have := HDd.out; omega) HO.out))
                case measure => have := HK2.out; simp [intOf]; omega
        · have hkn2 : decide ((k : Int) < (n : Int)) = false := decide_eq_false (by omega)
          have hkn3 : decide (k < n) = false := decide_eq_false hkn
          have HKn := Aside0.mk hkn
          have hkn4 : (n : Int) ≤ (k : Int) := by omega
          clear hkn
          go_wp2_with fail
          go_end0
          exact ⟨rfl, us, HR.out, HD.out.one (by have := HKn.out; omega)⟩
theorem srt_pw {cf : Q → Q → Int} : ∀ {ys : List Q}, SrtOn cf (at_ ys) 0 ys.length → ys.Pairwise (fun x y => ¬ cf y x < 0) := fun {ys} h => by
  rw [List.pairwise_iff_getElem]
  intro i j hi hj hij
  have := h i j (Nat.zero_le _) (Nat.le_of_lt hij) hj
  have e : ∀ (k : Nat) (hk : k < ys.length), at_ ys k = ys[k] := fun k hk => by show ys.getD k zQ = _; rw [List.getD_eq_getElem?_getD, List.getElem?_eq_getElem hk]; rfl
  rwa [e i hi, e j hj] at this
set_option maxRecDepth 100000 in
set_option maxHeartbeats 400000 in
theorem sort_all (cf : Q → Q → Int) (hp : Pre cf) (f : FuncId) (fn : Func) (hf : Try.prog.funcs[f]? = some fn) (hname : (fn.name == "runtime.NumGoroutine") = false) (hbody : fn.body.isSome = true) (g c n : Nat) (xs : List Q) (w : World) (base : Nat) (ok : Nat → Prop)
    (hrow : kq.R 40 w base ok (.slice (some ⟨g, 0, none⟩) n c) xs) (hn : n ≤ 1152921504606846976) (hcmp : CmpOk f cf w g xs) :
    Calls Try.prog 45 #[.slice (some ⟨g, 0, none⟩) n c, .func (.func f) #[] #[]] w fun e w' => e = .returned (.tuple #[]) ∧ ∃ zs, RS w w' base ok g n c xs zs ∧ zs.Pairwise (fun x y => ¬ cf y x < 0) := by
  have HI := Aside0.mk (stable_all cf hp f fn hf hname hbody g c n base ok hn xs w hrow hcmp)
  clear hf hname hbody hrow hcmp hp
  go_enter Try.func45, Try.ntmps45
  go_wp2_with fail
  refine HI.out.mono ?_
  rintro e w2 ⟨rfl, zs, hr, hs⟩
  have HR := Aside0.mk hr
  have HS := Aside0.mk hs
  clear hr hs HI
  go_wp2_with fail
  go_end0
  exact ⟨rfl, zs, HR.out, (srt_pw (by rw [HR.out.len]; exact HS.out)).imp (fun h => Int.not_lt.1 h)⟩
end Go.Proofs.Ytfeeahjaeapkoaa.Ext
end

section
namespace Go.Proofs.Ytfeeahjaeapkoaa.Ext
def sortK : Nat := 1099511627776
theorem sortK_le : sortK ≤ 1099511627776 := Nat.le_refl _
theorem sort_ok : SortUpto sortK := fun cf hp f fn hf hname hbody g c n xs w base ok hrow hn hcmp => sort_all cf hp f fn hf hname hbody g c n xs w base ok hrow (Nat.le_trans hn (by decide)) hcmp
end Go.Proofs.Ytfeeahjaeapkoaa.Ext
end

section
namespace Go.Proofs.Ytfeeahjaeapkoaa.P
set_option linter.unusedVariables false
set_option linter.unusedSimpArgs false
open Go.RowKit Go.Proofs.YtfeeahjaeapkoaaW.PrintWords Go.Proofs.YtfeeahjaeapkoaaW.PrintLast Go.Proofs.YtfeeahjaeapkoaaW.PrintMore Go.Proofs.Ytfeeahjaeapkoaa.Lib Go.Proofs.Ytfeeahjaeapkoaa.Ext
def small27 (x : S27) : Bool := decide (x.f1.length ≤ 8796093022208) && decide (x.f2.length ≤ 17592186044416)
def fact_Bag.f (l0 : List (S27)) : Option (List (S40)) := if l0.length ≤ sortK ∧ l0.all small27 = true then some ((bagOf (l0.map m27)).map s40) else none
theorem fact_Bag.calls (A0 : Option Addr) (c0 : Nat) (l0 : List (S27)) (r : List (S40)) (w : World) (hr0 : Kd.C k27 w A0 l0.length l0) (hc0 : l0.length ≤ c0) (h : fact_Bag.f l0 = some r) :
    Calls Try.prog 16 #[.slice A0 l0.length c0] w fun e w' => ∃ v0_ : Value, e = .returned v0_ ∧ Kd.R k40 40 w' w.heap.size (fun _ => True) v0_ r ∧ Below w.heap.size w w' := by
  unfold fact_Bag.f at h
  split at h
  · rename_i hh
    injection h with h
    subst h
    exact Bag_calls sortK sortK_le sort_ok _ c0 A0 l0 w hr0 hh.1 (fun x hx => by
      have := List.all_eq_true.1 hh.2 x hx
      unfold small27 at this
      simp only [Bool.and_eq_true, decide_eq_true_eq] at this
      exact this)
  · cases h
end Go.Proofs.Ytfeeahjaeapkoaa.P
end

section
namespace Go.Proofs.Ytfeeahjaeapkoaa.P
open Go.RowKit Go.Proofs.YtfeeahjaeapkoaaW.PrintWords Go.Proofs.YtfeeahjaeapkoaaW.PrintLast Go.Proofs.YtfeeahjaeapkoaaW.PrintMore
attribute [local go_sem] max2_int min2_int max_two min_two max_three min_three max_four min_four   -- for this text's walks alone
set_option linter.unusedVariables false
set_option linter.unusedSimpArgs false
open Go.Proofs.Ytfeeahjaeapkoaa.Ext (q1_ q2_ q3_ bk_ bw_ sz_ ne_ bx_)
attribute [local go_sem high] Go.Proofs.Ytfeeahjaeapkoaa.Ext.gtr_str Go.Proofs.Ytfeeahjaeapkoaa.Ext.leq_str Go.Proofs.Ytfeeahjaeapkoaa.Ext.geq_str
def fact_Count.l0 : Nat → Int → List (S40) → Int → Int → Option (Int)
 | 0, _, _, _, _ => none
 | k + 1, x2, x5, x6, x7 => if x7 < x6 then (if 0 ≤ x7 then (if x7 < (x5.length : Int) then (fact_Count.l0 k (IntKind.u64.wrap (x2 + ((rd_T40 x5 x7).f1))) x5 x6 (wrap64 (x7 + 1))) else (none)) else (none)) else (some x2)
def fact_Count.f (k : Nat) (l0 : List (S40)) : Option (Int) := fact_Count.l0 k 0 l0 (l0.length : Int) 0
set_option maxHeartbeats 8000000 in
set_option maxRecDepth 100000 in
theorem fact_Count.calls (k : Nat) (A0 : Option Addr) (c0 : Nat) (l0 : List (S40)) (r : Int) (w : World) (hr0 : Kd.C k40 w A0 l0.length l0) (hc0 : l0.length ≤ c0) (h : fact_Count.f k l0 = some r) :
  Calls Try.prog 17 #[.slice A0 l0.length c0] w fun e w' => e = .returned (.int .u64 r) ∧ Below w.heap.size w w' := by
 have hu40 := Try.underlying40
 have HR0 := Aside0.mk hr0
 have HC0 := Aside0.mk hc0
 clear hr0 hc0
 have HB := Aside0.mk (Below.refl w.heap.size w)
 have H : (fact_Count.l0 k 0 l0 (l0.length : Int) 0) = some r := h
 clear h
 have H' := Aside0.mk H
 clear H
 go_enter Try.func17, Try.ntmps17
 go_wp2
 go_loopg [2, 7] k (fun kq v2 v7 w' => ∃ (x2_1 : Int) (x7_1 : Int), v2 = .int .u64 x2_1 ∧ v7 = .int .i64 x7_1 ∧ Aside0 (fact_Count.l0 kq x2_1 l0 (l0.length : Int) x7_1 = some r) ∧ Aside0 (kq ≤ k) ∧ Aside0 (Below w.heap.size w w'))
 case atStart => exact ⟨(0), (0), (by first | rfl | (simp; done) | (simp [*]; done)), (by first | rfl | (simp; done) | (simp [*]; done)), H', ⟨Nat.le_refl _⟩, ⟨by repeat (first | (with_reducible first | exact HB.out | apply below_alloc | apply pw_below_drewN | apply below_drew1) | exact HB.out)⟩⟩
 case round =>
  clear H'
  try clear c1
  obtain ⟨x2_1, x7_1, rfl, rfl, HA, HK1, HB⟩ := hrel
  cases gk with
  | zero => exact absurd HA.out (by simp [fact_Count.l0])
  | succ k1 =>
   have H := HA.out
   clear HA
   simp only [fact_Count.l0] at H
   by_cases c2 : x7_1 < (l0.length : Int)
   ·rw [if_pos c2] at H
    have c2b0 : decide (x7_1 < (l0.length : Int)) = true := decide_eq_true c2
    clear c2
    by_cases c3 : 0 ≤ x7_1
    ·rw [if_pos c3] at H
     have c3b0 : decide (0 ≤ x7_1) = true := decide_eq_true c3
     clear c3
     by_cases c4 : x7_1 < (l0.length : Int)
     ·rw [if_pos c4] at H
      have c4b0 : decide (x7_1 < (l0.length : Int)) = true := decide_eq_true c4
      clear c4
      have H' := Aside0.mk H
      clear H
      have p160 : 0 ≤ (x7_1 : Int) := of_decide_eq_true (by assumption)
      have q160 : x7_1 < (l0.length : Int) := of_decide_eq_true (by assumption)
      obtain ⟨ad160, A160_1, c160_1, A160_2, c160_2, e160, hx160_0, hx160_1, hx160_2, hx160_3, hl160_1, hi160_1, hl160_2, hi160_2⟩ := at_T40 HR0.out x7_1 p160 q160
      cases e160
      replace hx160_0 := pw_cell_below HB.out hx160_0
      replace hx160_1 := pw_cell_below HB.out hx160_1
      replace hx160_2 := pw_cell_below HB.out hx160_2
      replace hx160_3 := pw_cell_below HB.out hx160_3
      have HR160_1 := Aside0.mk hi160_1
      have HC160_1 := Aside0.mk hl160_1
      clear hi160_1 hl160_1
      have HR160_2 := Aside0.mk hi160_2
      have HC160_2 := Aside0.mk hl160_2
      clear hi160_2 hl160_2
      replace p160 := eq_true p160
      replace q160 := eq_true q160
      go_wp2_with (first | ((with_reducible refine gate_dst (N := 4) rfl ?_); refine bx_ (N := 4) (cs := #[.int .i64 0, .slice none 0 0, .slice none 0 0, .int .u64 0]) (t := 40) ?_; intro gb161 hg w5 hbox hb; have n0_ := Aside0.mk (below_step (bw_ HB.out) hb); have n1_ := Aside0.mk (hbox); have n2_ := Aside0.mk (sz_ hg (bw_ HB.out)); have n3_ := n2_; clear HB; have HB := n0_; have BK161 := n1_; have GW161 := n2_; have GE161 := n3_; clear n0_ n1_ n2_ n3_; clear hb hbox hg; have hcz6_0 : w5.cell? ⟨gb161, 0, none⟩ = some (.int .i64 0) := (blk_cell BK161.out 0).trans rfl; have hcz6_1 : w5.cell? ⟨gb161, 1, none⟩ = some (.slice none 0 0) := (blk_cell BK161.out 1).trans rfl; have hcz6_2 : w5.cell? ⟨gb161, 2, none⟩ = some (.slice none 0 0) := (blk_cell BK161.out 2).trans rfl; have hcz6_3 : w5.cell? ⟨gb161, 3, none⟩ = some (.int .u64 0) := (blk_cell BK161.out 3).trans rfl; have hfz6_0 := blk_frozen BK161.out 0; have hfz6_1 := blk_frozen BK161.out 1; have hfz6_2 := blk_frozen BK161.out 2; have hfz6_3 := blk_frozen BK161.out 3))
      go_roundg k1
      case measure => have := HK1.out; omega
      case rel => exact ⟨(IntKind.u64.wrap (x2_1 + ((rd_T40 l0 x7_1).f1))), (wrap64 (x7_1 + 1)), (by first | rfl | (simp; done) | (simp [*]; done)), (by first | rfl | (simp; done) | (simp [*]; done)), H', ⟨by have := HK1.out; omega⟩, ⟨by repeat (first | (with_reducible first | exact HB.out | apply below_alloc | apply pw_below_drewN | apply below_drew1 | refine below_set ?_ GE161.out) | exact HB.out)⟩⟩
     ·rw [if_neg c4] at H
      exact absurd H (by simp)
    ·rw [if_neg c3] at H
     exact absurd H (by simp)
   ·rw [if_neg c2] at H
    have c2b0 : decide (x7_1 < (l0.length : Int)) = false := decide_eq_false c2
    clear c2
    obtain rfl := Option.some.inj H
    go_wp2
    go_ret
    exact ⟨by first | rfl | (simp [errW_none, errW_some] <;> rfl) | (simp [*, errW_none, errW_some] <;> rfl), by repeat (first | (with_reducible first | exact HB.out | apply below_alloc | apply pw_below_drewN | apply below_drew1) | exact HB.out)⟩
end Go.Proofs.Ytfeeahjaeapkoaa.P
end

section
namespace Go.Proofs.Ytfeeahjaeapkoaa.P
open Go.RowKit Go.Proofs.YtfeeahjaeapkoaaW.PrintWords Go.Proofs.YtfeeahjaeapkoaaW.PrintLast Go.Proofs.YtfeeahjaeapkoaaW.PrintMore
attribute [local go_sem] max2_int min2_int max_two min_two max_three min_three max_four min_four   -- for this text's walks alone
set_option linter.unusedVariables false
set_option linter.unusedSimpArgs false
open Go.Proofs.Ytfeeahjaeapkoaa.Ext (q1_ q2_ q3_ bk_ bw_ sz_ ne_ bx_)
attribute [local go_sem high] Go.Proofs.Ytfeeahjaeapkoaa.Ext.gtr_str Go.Proofs.Ytfeeahjaeapkoaa.Ext.leq_str Go.Proofs.Ytfeeahjaeapkoaa.Ext.geq_str
def fact_Fine.f (a0_0 : Int) (a0_1 : Int) : Option (Int) := if a0_0 < 0 then (some 1) else (if a0_0 > 8 then (some 1) else (if a0_1 < 0 then (some 1) else (if a0_1 > 8 then (some 1) else (some 0))))
set_option maxHeartbeats 8000000 in
set_option maxRecDepth 100000 in
theorem fact_Fine.calls (a0_0 : Int) (a0_1 : Int) (r : Int) (w : World) (h : fact_Fine.f a0_0 a0_1 = some r) :
  Calls Try.prog 11 #[.agg #[.int .i64 a0_0, .int .i64 a0_1]] w fun e w' => e = .returned (.int .i64 r) ∧ Below w.heap.size w w' := by
 have hu23 := Try.underlying23
 have HB := Aside0.mk (Below.refl w.heap.size w)
 have H : (if a0_0 < 0 then (some 1) else (if a0_0 > 8 then (some 1) else (if a0_1 < 0 then (some 1) else (if a0_1 > 8 then (some 1) else (some 0))))) = some r := h
 clear h
 by_cases c2 : a0_0 < 0
 ·rw [if_pos c2] at H
  have c2b0 : decide (a0_0 < 0) = true := decide_eq_true c2
  clear c2
  obtain rfl := Option.some.inj H
  go_enter Try.func11, Try.ntmps11
  go_wp2_with (first | ((with_reducible refine gate_dst (N := 1) rfl ?_); refine bx_ (N := 1) (cs := #[.int .i64 a0_0, .int .i64 a0_1]) (t := 23) ?_; intro gb102 hg w3 hbox hb; have n0_ := Aside0.mk (below_step (bw_ HB.out) hb); have n1_ := Aside0.mk (hbox); have n2_ := Aside0.mk (sz_ hg (bw_ HB.out)); have n3_ := n2_; clear HB; have HB := n0_; have BK102 := n1_; have GW102 := n2_; have GE102 := n3_; clear n0_ n1_ n2_ n3_; clear hb hbox hg; have hcz4_0 : w3.cell? ⟨gb102, 0, none⟩ = some (.int .i64 a0_0) := (blk_cell BK102.out 0).trans rfl; have hcz4_1 : w3.cell? ⟨gb102, 1, none⟩ = some (.int .i64 a0_1) := (blk_cell BK102.out 1).trans rfl; have hfz4_0 := blk_frozen BK102.out 0; have hfz4_1 := blk_frozen BK102.out 1))
  go_ret
  exact ⟨by first | rfl | (simp [errW_none, errW_some] <;> rfl) | (simp [*, errW_none, errW_some] <;> rfl), by repeat (first | (with_reducible first | exact HB.out | apply below_alloc | apply pw_below_drewN | apply below_drew1 | refine below_set ?_ GE102.out) | exact HB.out)⟩
 ·rw [if_neg c2] at H
  have c2b0 : decide (a0_0 < 0) = false := decide_eq_false c2
  clear c2
  by_cases c5 : a0_0 > 8
  ·rw [if_pos c5] at H
   have c5b0 : decide (8 < a0_0) = true := decide_eq_true c5
   clear c5
   obtain rfl := Option.some.inj H
   go_enter Try.func11, Try.ntmps11
   go_wp2_with (first | ((with_reducible refine gate_dst (N := 1) rfl ?_); refine bx_ (N := 1) (cs := #[.int .i64 a0_0, .int .i64 a0_1]) (t := 23) ?_; intro gb102 hg w6 hbox hb; have n0_ := Aside0.mk (below_step (bw_ HB.out) hb); have n1_ := Aside0.mk (hbox); have n2_ := Aside0.mk (sz_ hg (bw_ HB.out)); have n3_ := n2_; clear HB; have HB := n0_; have BK102 := n1_; have GW102 := n2_; have GE102 := n3_; clear n0_ n1_ n2_ n3_; clear hb hbox hg; have hcz7_0 : w6.cell? ⟨gb102, 0, none⟩ = some (.int .i64 a0_0) := (blk_cell BK102.out 0).trans rfl; have hcz7_1 : w6.cell? ⟨gb102, 1, none⟩ = some (.int .i64 a0_1) := (blk_cell BK102.out 1).trans rfl; have hfz7_0 := blk_frozen BK102.out 0; have hfz7_1 := blk_frozen BK102.out 1))
   go_ret
   exact ⟨by first | rfl | (simp [errW_none, errW_some] <;> rfl) | (simp [*, errW_none, errW_some] <;> rfl), by repeat (first | (with_reducible first | exact HB.out | apply below_alloc | apply pw_below_drewN | apply below_drew1 | refine below_set ?_ GE102.out) | exact HB.out)⟩
  ·rw [if_neg c5] at H
   have c5b0 : decide (8 < a0_0) = false := decide_eq_false c5
   clear c5
   by_cases c8 : a0_1 < 0
   ·rw [if_pos c8] at H
    have c8b0 : decide (a0_1 < 0) = true := decide_eq_true c8
    clear c8
    obtain rfl := Option.some.inj H
    go_enter Try.func11, Try.ntmps11
    go_wp2_with (first | ((with_reducible refine gate_dst (N := 1) rfl ?_); refine bx_ (N := 1) (cs := #[.int .i64 a0_0, .int .i64 a0_1]) (t := 23) ?_; intro gb102 hg w9 hbox hb; have n0_ := Aside0.mk (below_step (bw_ HB.out) hb); have n1_ := Aside0.mk (hbox); have n2_ := Aside0.mk (sz_ hg (bw_ HB.out)); have n3_ := n2_; clear HB; have HB := n0_; have BK102 := n1_; have GW102 := n2_; have GE102 := n3_; clear n0_ n1_ n2_ n3_; clear hb hbox hg; have hcz10_0 : w9.cell? ⟨gb102, 0, none⟩ = some (.int .i64 a0_0) := (blk_cell BK102.out 0).trans rfl; have hcz10_1 : w9.cell? ⟨gb102, 1, none⟩ = some (.int .i64 a0_1) := (blk_cell BK102.out 1).trans rfl; have hfz10_0 := blk_frozen BK102.out 0; have hfz10_1 := blk_frozen BK102.out 1))
    go_ret
    exact ⟨by first | rfl | (simp [errW_none, errW_some] <;> rfl) | (simp [*, errW_none, errW_some] <;> rfl), by repeat (first | (with_reducible first | exact HB.out | apply below_alloc | apply pw_below_drewN | apply below_drew1 | refine below_set ?_ GE102.out) | exact HB.out)⟩
   ·rw [if_neg c8] at H
    have c8b0 : decide (a0_1 < 0) = false := decide_eq_false c8
    clear c8
    by_cases c11 : a0_1 > 8
    ·rw [if_pos c11] at H
     have c11b0 : decide (8 < a0_1) = true := decide_eq_true c11
     clear c11
     obtain rfl := Option.some.inj H
     go_enter Try.func11, Try.ntmps11
     go_wp2_with (first | ((with_reducible refine gate_dst (N := 1) rfl ?_); refine bx_ (N := 1) (cs := #[.int .i64 a0_0, .int .i64 a0_1]) (t := 23) ?_; intro gb102 hg w12 hbox hb; have n0_ := Aside0.mk (below_step (bw_ HB.out) hb); have n1_ := Aside0.mk (hbox); have n2_ := Aside0.mk (sz_ hg (bw_ HB.out)); have n3_ := n2_; clear HB; have HB := n0_; have BK102 := n1_; have GW102 := n2_; have GE102 := n3_; clear n0_ n1_ n2_ n3_; clear hb hbox hg; have hcz13_0 : w12.cell? ⟨gb102, 0, none⟩ = some (.int .i64 a0_0) := (blk_cell BK102.out 0).trans rfl; have hcz13_1 : w12.cell? ⟨gb102, 1, none⟩ = some (.int .i64 a0_1) := (blk_cell BK102.out 1).trans rfl; have hfz13_0 := blk_frozen BK102.out 0; have hfz13_1 := blk_frozen BK102.out 1))
     go_ret
     exact ⟨by first | rfl | (simp [errW_none, errW_some] <;> rfl) | (simp [*, errW_none, errW_some] <;> rfl), by repeat (first | (with_reducible first | exact HB.out | apply below_alloc | apply pw_below_drewN | apply below_drew1 | refine below_set ?_ GE102.out) | exact HB.out)⟩
    ·rw [if_neg c11] at H
     have c11b0 : decide (8 < a0_1) = false := decide_eq_false c11
     clear c11
     obtain rfl := Option.some.inj H
     go_enter Try.func11, Try.ntmps11
     go_wp2_with (first | ((with_reducible refine gate_dst (N := 1) rfl ?_); refine bx_ (N := 1) (cs := #[.int .i64 a0_0, .int .i64 a0_1]) (t := 23) ?_; intro gb102 hg w14 hbox hb; have n0_ := Aside0.mk (below_step (bw_ HB.out) hb); have n1_ := Aside0.mk (hbox); have n2_ := Aside0.mk (sz_ hg (bw_ HB.out)); have n3_ := n2_; clear HB; have HB := n0_; have BK102 := n1_; have GW102 := n2_; have GE102 := n3_; clear n0_ n1_ n2_ n3_; clear hb hbox hg; have hcz15_0 : w14.cell? ⟨gb102, 0, none⟩ = some (.int .i64 a0_0) := (blk_cell BK102.out 0).trans rfl; have hcz15_1 : w14.cell? ⟨gb102, 1, none⟩ = some (.int .i64 a0_1) := (blk_cell BK102.out 1).trans rfl; have hfz15_0 := blk_frozen BK102.out 0; have hfz15_1 := blk_frozen BK102.out 1))
     go_ret
     exact ⟨by first | rfl | (simp [errW_none, errW_some] <;> rfl) | (simp [*, errW_none, errW_some] <;> rfl), by repeat (first | (with_reducible first | exact HB.out | apply below_alloc | apply pw_below_drewN | apply below_drew1 | refine below_set ?_ GE102.out) | exact HB.out)⟩
end Go.Proofs.Ytfeeahjaeapkoaa.P
end

section
namespace Go.Proofs.Ytfeeahjaeapkoaa.P
set_option linter.unusedVariables false
set_option linter.unusedSimpArgs false
open Go.RowKit Go.Proofs.YtfeeahjaeapkoaaW.PrintWords Go.Proofs.YtfeeahjaeapkoaaW.PrintLast Go.Proofs.YtfeeahjaeapkoaaW.PrintMore Go.Proofs.Ytfeeahjaeapkoaa.Lib
set_option maxRecDepth 100000 in
set_option maxHeartbeats 400000 in
theorem long_word (s : ByteArray) (w : World) :
    Calls Try.prog 27 #[.string s] w fun e w' => e = .returned (.bool (decide (64 < s.size))) ∧ w = w' := by
  by_cases h : 64 < s.size
  · have h2 : decide (64 < s.size) = true := decide_eq_true h
    rw [h2]
    have h3 : decide ((64 : Int) < (s.size : Int)) = true := decide_eq_true (by omega)
    clear h h2
    go_enter Try.func27, Try.ntmps27
    go_wp2_with fail
    go_ret
    exact ⟨rfl, rfl⟩
  · have h2 : decide (64 < s.size) = false := decide_eq_false h
    rw [h2]
    have h3 : decide ((64 : Int) < (s.size : Int)) = false := decide_eq_false (by omega)
    clear h h2
    go_enter Try.func27, Try.ntmps27
    go_wp2_with fail
    go_ret
    exact ⟨rfl, rfl⟩
def tooLong (ts : List ByteArray) : Bool := ts.any fun t => decide (64 < t.size)
set_option maxRecDepth 100000 in
set_option maxHeartbeats 400000 in
theorem index_long (ts : List ByteArray) (A : Option Addr) (n c : Nat) (w : World) (hC : Kd.C Kd.string w A n ts) :
    Calls Try.prog 41 #[.slice A n c, .func (.func 27) #[] #[]] w fun e w' => (∃ k : Int, e = .returned (.int .i64 k) ∧ decide (0 ≤ k) = tooLong ts) ∧ w = w' := by
  have HC := Aside0.mk hC
  have HLen := Aside0.mk (show ts.length = n from hC.1)
  have hn := hC.2.1
  clear hC
  go_enter Try.func41, Try.ntmps41
  go_wp2_with fail
  go_loop [8] (fun kv => ∃ k : Nat, k ≤ n ∧ kv = .int .i64 k ∧ Aside0 (tooLong (ts.take k) = false)) (fun kv => n - (intOf kv).toNat)
  case atStart => exact ⟨0, Nat.zero_le _, rfl, ⟨by simp [tooLong]⟩⟩
  case round =>
    obtain ⟨k, hk, rfl, HT⟩ := hrel
    by_cases hlt : k < n
    · obtain ⟨ad, e, hcell⟩ := Kd.at_string HC.out (k : Int) (by omega) (by omega)
      subst e
      rw [Int.toNat_natCast] at hcell
      have HL := Aside0.mk (show tooLong (ts.take (k + 1)) = decide (64 < (rdOf ByteArray.empty ts (k : Int)).size) by
        rw [List.take_succ_eq_append_getElem (by rw [HLen.out]; exact hlt)]
        have h := HT.out
        unfold tooLong at h ⊢
        rw [List.any_append, h]
        unfold rdOf
        rw [Int.toNat_natCast, List.getD_eq_getElem?_getD, List.getElem?_eq_getElem (by rw [HLen.out]; exact hlt)]
        simp)
      have HA := Aside0.mk (show tooLong (ts.take (k + 1)) = true → tooLong ts = true by
        unfold tooLong
        intro h
        rw [List.any_eq_true] at h ⊢
        obtain ⟨x, hx, h⟩ := h
        exact ⟨x, List.mem_of_mem_take hx, h⟩)
      generalize rdOf ByteArray.empty ts (k : Int) = s at *
      go_wp2_with fail
      refine (long_word s w).mono ?_
      rintro e w1 ⟨rfl, rfl⟩
      rw [← HL.out]
      obtain ⟨b, hb⟩ : ∃ b, tooLong (ts.take (k + 1)) = b := ⟨_, rfl⟩
      rw [hb] at HL HA ⊢
      have HT2 := Aside0.mk hb
      clear hb HT
      cases b
      · go_wp2_with fail
        go_round
        case rel => exact ⟨k + 1, by omega, by go_num, HT2⟩
        case measure => simp [intOf]; omega
      · go_wp2_with fail
        go_ret
        exact ⟨⟨(k : Int), rfl, by rw [HA.out (by trivial)]; exact decide_eq_true (by omega)⟩, rfl⟩
    · obtain rfl : k = n := by omega
      have HE := Aside0.mk (show tooLong ts = false by have h := HT.out; rw [← HLen.out, List.take_length] at h; exact h)
      go_wp2_with fail
      go_ret
      exact ⟨⟨-1, rfl, by rw [HE.out]; rfl⟩, rfl⟩
def slices_ContainsFunc_string_string_at_fact_Check_1.f (l0 : List ByteArray) : Option Bool := some (tooLong l0)
set_option maxRecDepth 100000 in
set_option maxHeartbeats 400000 in
theorem slices_ContainsFunc_string_string_at_fact_Check_1.calls (A0 : Option Addr) (c0 : Nat) (l0 : List ByteArray) (r : Bool) (w : World) (hr0 : Kd.C Kd.string w A0 l0.length l0) (hc0 : l0.length ≤ c0) (h : slices_ContainsFunc_string_string_at_fact_Check_1.f l0 = some r) :
    Calls Try.prog 28 #[.slice A0 l0.length c0, .func (.func 27) #[] #[]] w fun e w' => e = .returned (.bool r) ∧ Drawn0 w w' := by
  unfold slices_ContainsFunc_string_string_at_fact_Check_1.f at h
  injection h with h
  have HH := Aside0.mk h
  have H := Aside0.mk (index_long l0 A0 l0.length c0 w hr0)
  clear hr0 h hc0
  go_enter Try.func28, Try.ntmps28
  go_wp2_with fail
  refine H.out.mono ?_
  rintro e w1 ⟨⟨k, rfl, hk⟩, rfl⟩
  have HK := Aside0.mk hk
  clear hk
  go_wp2_with fail
  go_ret
  exact ⟨by rw [← HH.out, ← HK.out]; rfl, Drawn0.refl _⟩
end Go.Proofs.Ytfeeahjaeapkoaa.P
end

section
namespace Go.Proofs.Ytfeeahjaeapkoaa.P
open Go.RowKit Go.Proofs.YtfeeahjaeapkoaaW.PrintWords Go.Proofs.YtfeeahjaeapkoaaW.PrintLast Go.Proofs.YtfeeahjaeapkoaaW.PrintMore
attribute [local go_sem] max2_int min2_int max_two min_two max_three min_three max_four min_four   -- for this text's walks alone
set_option linter.unusedVariables false
set_option linter.unusedSimpArgs false
open Go.Proofs.Ytfeeahjaeapkoaa.Ext (q1_ q2_ q3_ bk_ bw_ sz_ ne_ bx_)
attribute [local go_sem high] Go.Proofs.Ytfeeahjaeapkoaa.Ext.gtr_str Go.Proofs.Ytfeeahjaeapkoaa.Ext.leq_str Go.Proofs.Ytfeeahjaeapkoaa.Ext.geq_str
def fact_Check.f (a0_0 : Int) (a0_1 : Int) (a1_0 : Int) (l1_1 : List ByteArray) (l1_2 : List Int) : Option (Int) := (fact_Fine.f a0_0 a0_1).bind fun t105 => (if t105 = 0 then (if a1_0 < 0 then (some 40) else (if a1_0 ≥ 1099511627776 then (some 40) else (if (l1_1.length : Int) = a0_0 then (if (l1_2.length : Int) = a0_1 then ((slices_ContainsFunc_string_string_at_fact_Check_1.f l1_1).bind fun t106 => (if t106 = true then (some 40) else (some 0))) else (some 40)) else (some 40)))) else (some t105))
set_option maxHeartbeats 8000000 in
set_option maxRecDepth 100000 in
theorem fact_Check.calls (a0_0 : Int) (a0_1 : Int) (a1_0 : Int) (A1_1 : Option Addr) (c1_1 : Nat) (l1_1 : List ByteArray) (A1_2 : Option Addr) (c1_2 : Nat) (l1_2 : List Int) (r : Int) (w : World) (hr1_1 : Kd.C Kd.string w A1_1 l1_1.length l1_1) (hc1_1 : l1_1.length ≤ c1_1) (hr1_2 : Kd.C (Kd.int .i64) w A1_2 l1_2.length l1_2) (hc1_2 : l1_2.length ≤ c1_2) (h : fact_Check.f a0_0 a0_1 a1_0 l1_1 l1_2 = some r) :
  Calls Try.prog 12 #[.agg #[.int .i64 a0_0, .int .i64 a0_1], .agg #[.int .i64 a1_0, .slice A1_1 l1_1.length c1_1, .slice A1_2 l1_2.length c1_2]] w fun e w' => e = .returned (.int .i64 r) ∧ Below w.heap.size w w' := by
 have hu23 := Try.underlying23
 have hu27 := Try.underlying27
 have HR1_1 := Aside0.mk hr1_1
 have HC1_1 := Aside0.mk hc1_1
 clear hr1_1 hc1_1
 have HR1_2 := Aside0.mk hr1_2
 have HC1_2 := Aside0.mk hc1_2
 clear hr1_2 hc1_2
 have HB := Aside0.mk (Below.refl w.heap.size w)
 have H : ((fact_Fine.f a0_0 a0_1).bind fun t105 => (if t105 = 0 then (if a1_0 < 0 then (some 40) else (if a1_0 ≥ 1099511627776 then (some 40) else (if (l1_1.length : Int) = a0_0 then (if (l1_2.length : Int) = a0_1 then ((slices_ContainsFunc_string_string_at_fact_Check_1.f l1_1).bind fun t106 => (if t106 = true then (some 40) else (some 0))) else (some 40)) else (some 40)))) else (some t105))) = some r := h
 clear h
 replace H := Option.bind_eq_some_iff.mp H
 obtain ⟨t105, A30, H⟩ := H
 replace H : (if t105 = 0 then (if a1_0 < 0 then (some 40) else (if a1_0 ≥ 1099511627776 then (some 40) else (if (l1_1.length : Int) = a0_0 then (if (l1_2.length : Int) = a0_1 then ((slices_ContainsFunc_string_string_at_fact_Check_1.f l1_1).bind fun t106 => (if t106 = true then (some 40) else (some 0))) else (some 40)) else (some 40)))) else (some t105)) = some r := H
 have A3 := Aside0.mk A30
 clear A30
 by_cases c4 : t105 = 0
 ·rw [if_pos c4] at H
  have c4b0 : (t105 == 0) = true := beq_iff_eq.mpr c4
  have c4b1 : (t105 != 0) = false := bne_eq_false_iff_eq.mpr c4
  clear c4
  by_cases c5 : a1_0 < 0
  ·rw [if_pos c5] at H
   have c5b0 : decide (a1_0 < 0) = true := decide_eq_true c5
   clear c5
   obtain rfl := Option.some.inj H
   go_enter Try.func12, Try.ntmps12
   go_wp2_with (first | ((with_reducible refine gate_dst (N := 2) rfl ?_); (try (refine gate_guard (by rfl) ?_; dsimp only)); refine bx_ (N := 2) (cs := #[.int .i64 a0_0, .int .i64 a0_1]) (t := 23) ?_; intro gb103 hg w6 hbox hb; have n0_ := Aside0.mk (below_step (bw_ HB.out) hb); have n1_ := Aside0.mk (hbox); have n2_ := Aside0.mk (sz_ hg (bw_ HB.out)); have n3_ := n2_; clear HB; have HB := n0_; have BK103 := n1_; have GW103 := n2_; have GE103 := n3_; clear n0_ n1_ n2_ n3_; clear hb hbox hg) | ((with_reducible refine gate_dst (N := 3) rfl ?_); (try (refine gate_guard (by rfl) ?_; dsimp only)); refine bx_ (N := 3) (cs := #[.int .i64 a1_0, .slice A1_1 l1_1.length c1_1, .slice A1_2 l1_2.length c1_2]) (t := 27) ?_; intro gb104 hg w7 hbox hb; have n0_ := Aside0.mk (blk_below (bk_ BK103.out) hb); have n1_ := Aside0.mk (below_step (bw_ HB.out) hb); have n2_ := Aside0.mk (hbox); have n3_ := Aside0.mk (sz_ hg (bw_ HB.out)); have n4_ := n3_; have n5_ := Aside0.mk (ne_ hg (blk_lt (bk_ BK103.out))); have n6_ := Aside0.mk n5_.out.symm; clear BK103 HB; have BK103 := n0_; have HB := n1_; have BK104 := n2_; have GW104 := n3_; have GE104 := n4_; have NB103_104 := n5_; have NB104_103 := n6_; clear n0_ n1_ n2_ n3_ n4_ n5_ n6_; clear hb hbox hg; have hnb8 := NB103_104.out; have hnc8 := NB104_103.out; have hcz9_0 : w7.cell? ⟨gb103, 0, none⟩ = some (.int .i64 a0_0) := (blk_cell BK103.out 0).trans rfl; have hcz9_1 : w7.cell? ⟨gb103, 1, none⟩ = some (.int .i64 a0_1) := (blk_cell BK103.out 1).trans rfl; have hfz9_0 := blk_frozen BK103.out 0; have hfz9_1 := blk_frozen BK103.out 1) | ((with_reducible refine gate_callee (f := 11) rfl ?_); refine goesL_ (some 8) rfl rfl Try.func11 (by kernel_rfl) rfl #[.agg #[.int .i64 a0_0, .int .i64 a0_1]] rfl (by (try simp only [List.map_toArray, List.map_cons, List.map_nil]); first | done | rfl | (simp only [List.length_drop, List.length_take]; rfl)) ?_; (with_reducible refine (fact_Fine.calls a0_0 a0_1 t105 _ A3.out).mono ?_); rintro e w10 ⟨rfl, hb⟩; refine ⟨_, rfl, ?_⟩; have n0_ := Aside0.mk (blk_below (bk_ BK103.out) hb); have n1_ := Aside0.mk (blk_below (bk_ BK104.out) hb); have n2_ := Aside0.mk (below_step (bw_ HB.out) hb); clear BK103 BK104 HB; have BK103 := n0_; have BK104 := n1_; have HB := n2_; clear n0_ n1_ n2_; (try clear hb); (try clear hb2); (try clear hk); (try clear hi); have hcz11_0 : w10.cell? ⟨gb104, 0, none⟩ = some (.int .i64 a1_0) := (blk_cell BK104.out 0).trans rfl; have hcz11_1 : w10.cell? ⟨gb104, 1, none⟩ = some (.slice A1_1 l1_1.length c1_1) := (blk_cell BK104.out 1).trans rfl; have hcz11_2 : w10.cell? ⟨gb104, 2, none⟩ = some (.slice A1_2 l1_2.length c1_2) := (blk_cell BK104.out 2).trans rfl; have hfz11_0 := blk_frozen BK104.out 0; have hfz11_1 := blk_frozen BK104.out 1; have hfz11_2 := blk_frozen BK104.out 2))
   go_ret
   exact ⟨by first | rfl | (simp [errW_none, errW_some] <;> rfl) | (simp [*, errW_none, errW_some] <;> rfl), by repeat (first | (with_reducible first | exact HB.out | apply below_alloc | apply pw_below_drewN | apply below_drew1 | refine below_set ?_ GE103.out | refine below_set ?_ GE104.out) | exact HB.out)⟩
  ·rw [if_neg c5] at H
   have c5b0 : decide (a1_0 < 0) = false := decide_eq_false c5
   clear c5
   by_cases c12 : a1_0 ≥ 1099511627776
   ·rw [if_pos c12] at H
    have c12b0 : decide (1099511627776 ≤ a1_0) = true := decide_eq_true c12
    clear c12
    obtain rfl := Option.some.inj H
    go_enter Try.func12, Try.ntmps12
    go_wp2_with (first | ((with_reducible refine gate_dst (N := 2) rfl ?_); (try (refine gate_guard (by rfl) ?_; dsimp only)); refine bx_ (N := 2) (cs := #[.int .i64 a0_0, .int .i64 a0_1]) (t := 23) ?_; intro gb103 hg w13 hbox hb; have n0_ := Aside0.mk (below_step (bw_ HB.out) hb); have n1_ := Aside0.mk (hbox); have n2_ := Aside0.mk (sz_ hg (bw_ HB.out)); have n3_ := n2_; clear HB; have HB := n0_; have BK103 := n1_; have GW103 := n2_; have GE103 := n3_; clear n0_ n1_ n2_ n3_; clear hb hbox hg) | ((with_reducible refine gate_dst (N := 3) rfl ?_); (try (refine gate_guard (by rfl) ?_; dsimp only)); refine bx_ (N := 3) (cs := #[.int .i64 a1_0, .slice A1_1 l1_1.length c1_1, .slice A1_2 l1_2.length c1_2]) (t := 27) ?_; intro gb104 hg w14 hbox hb; have n0_ := Aside0.mk (blk_below (bk_ BK103.out) hb); have n1_ := Aside0.mk (below_step (bw_ HB.out) hb); have n2_ := Aside0.mk (hbox); have n3_ := Aside0.mk (sz_ hg (bw_ HB.out)); have n4_ := n3_; have n5_ := Aside0.mk (ne_ hg (blk_lt (bk_ BK103.out))); have n6_ := Aside0.mk n5_.out.symm; clear BK103 HB; have BK103 := n0_; have HB := n1_; have BK104 := n2_; have GW104 := n3_; have GE104 := n4_; have NB103_104 := n5_; have NB104_103 := n6_; clear n0_ n1_ n2_ n3_ n4_ n5_ n6_; clear hb hbox hg; have hnb15 := NB103_104.out; have hnc15 := NB104_103.out; have hcz16_0 : w14.cell? ⟨gb103, 0, none⟩ = some (.int .i64 a0_0) := (blk_cell BK103.out 0).trans rfl; have hcz16_1 : w14.cell? ⟨gb103, 1, none⟩ = some (.int .i64 a0_1) := (blk_cell BK103.out 1).trans rfl; have hfz16_0 := blk_frozen BK103.out 0; have hfz16_1 := blk_frozen BK103.out 1) | ((with_reducible refine gate_callee (f := 11) rfl ?_); refine goesL_ (some 8) rfl rfl Try.func11 (by kernel_rfl) rfl #[.agg #[.int .i64 a0_0, .int .i64 a0_1]] rfl (by (try simp only [List.map_toArray, List.map_cons, List.map_nil]); first | done | rfl | (simp only [List.length_drop, List.length_take]; rfl)) ?_; (with_reducible refine (fact_Fine.calls a0_0 a0_1 t105 _ A3.out).mono ?_); rintro e w17 ⟨rfl, hb⟩; refine ⟨_, rfl, ?_⟩; have n0_ := Aside0.mk (blk_below (bk_ BK103.out) hb); have n1_ := Aside0.mk (blk_below (bk_ BK104.out) hb); have n2_ := Aside0.mk (below_step (bw_ HB.out) hb); clear BK103 BK104 HB; have BK103 := n0_; have BK104 := n1_; have HB := n2_; clear n0_ n1_ n2_; (try clear hb); (try clear hb2); (try clear hk); (try clear hi); have hcz18_0 : w17.cell? ⟨gb104, 0, none⟩ = some (.int .i64 a1_0) := (blk_cell BK104.out 0).trans rfl; have hcz18_1 : w17.cell? ⟨gb104, 1, none⟩ = some (.slice A1_1 l1_1.length c1_1) := (blk_cell BK104.out 1).trans rfl; have hcz18_2 : w17.cell? ⟨gb104, 2, none⟩ = some (.slice A1_2 l1_2.length c1_2) := (blk_cell BK104.out 2).trans rfl; have hfz18_0 := blk_frozen BK104.out 0; have hfz18_1 := blk_frozen BK104.out 1; have hfz18_2 := blk_frozen BK104.out 2))
    go_ret
    exact ⟨by first | rfl | (simp [errW_none, errW_some] <;> rfl) | (simp [*, errW_none, errW_some] <;> rfl), by repeat (first | (with_reducible first | exact HB.out | apply below_alloc | apply pw_below_drewN | apply below_drew1 | refine below_set ?_ GE103.out | refine below_set ?_ GE104.out) | exact HB.out)⟩
   ·rw [if_neg c12] at H
    have c12b0 : decide (1099511627776 ≤ a1_0) = false := decide_eq_false c12
    clear c12
    by_cases c19 : (l1_1.length : Int) = a0_0
    ·rw [if_pos c19] at H
     have c19b0 : ((l1_1.length : Int) == a0_0) = true := beq_iff_eq.mpr c19
     have c19b1 : ((l1_1.length : Int) != a0_0) = false := bne_eq_false_iff_eq.mpr c19
     clear c19
     by_cases c20 : (l1_2.length : Int) = a0_1
     ·rw [if_pos c20] at H
      have c20b0 : ((l1_2.length : Int) == a0_1) = true := beq_iff_eq.mpr c20
      have c20b1 : ((l1_2.length : Int) != a0_1) = false := bne_eq_false_iff_eq.mpr c20
      clear c20
      replace H := Option.bind_eq_some_iff.mp H
      obtain ⟨t106, A210, H⟩ := H
      replace H : (if t106 = true then (some 40) else (some 0)) = some r := H
      have A21 := Aside0.mk A210
      clear A210
      by_cases c22 : t106 = true
      ·subst c22
       have H1 : (some 40) = some r := by rw [if_pos rfl] at H; exact H
       clear H
       have H := H1
       clear H1
       obtain rfl := Option.some.inj H
       go_enter Try.func12, Try.ntmps12
       go_wp2_with (first | ((with_reducible refine gate_dst (N := 2) rfl ?_); (try (refine gate_guard (by rfl) ?_; dsimp only)); refine bx_ (N := 2) (cs := #[.int .i64 a0_0, .int .i64 a0_1]) (t := 23) ?_; intro gb103 hg w23 hbox hb; have n0_ := Aside0.mk (below_step (bw_ HB.out) hb); have n1_ := Aside0.mk (hbox); have n2_ := Aside0.mk (sz_ hg (bw_ HB.out)); have n3_ := n2_; clear HB; have HB := n0_; have BK103 := n1_; have GW103 := n2_; have GE103 := n3_; clear n0_ n1_ n2_ n3_; clear hb hbox hg) | ((with_reducible refine gate_dst (N := 3) rfl ?_); (try (refine gate_guard (by rfl) ?_; dsimp only)); refine bx_ (N := 3) (cs := #[.int .i64 a1_0, .slice A1_1 l1_1.length c1_1, .slice A1_2 l1_2.length c1_2]) (t := 27) ?_; intro gb104 hg w24 hbox hb; have n0_ := Aside0.mk (blk_below (bk_ BK103.out) hb); have n1_ := Aside0.mk (below_step (bw_ HB.out) hb); have n2_ := Aside0.mk (hbox); have n3_ := Aside0.mk (sz_ hg (bw_ HB.out)); have n4_ := n3_; have n5_ := Aside0.mk (ne_ hg (blk_lt (bk_ BK103.out))); have n6_ := Aside0.mk n5_.out.symm; clear BK103 HB; have BK103 := n0_; have HB := n1_; have BK104 := n2_; have GW104 := n3_; have GE104 := n4_; have NB103_104 := n5_; have NB104_103 := n6_; clear n0_ n1_ n2_ n3_ n4_ n5_ n6_; clear hb hbox hg; have hnb25 := NB103_104.out; have hnc25 := NB104_103.out; have hcz26_0 : w24.cell? ⟨gb103, 0, none⟩ = some (.int .i64 a0_0) := (blk_cell BK103.out 0).trans rfl; have hcz26_1 : w24.cell? ⟨gb103, 1, none⟩ = some (.int .i64 a0_1) := (blk_cell BK103.out 1).trans rfl; have hfz26_0 := blk_frozen BK103.out 0; have hfz26_1 := blk_frozen BK103.out 1) | ((with_reducible refine gate_callee (f := 11) rfl ?_); refine goesL_ (some 8) rfl rfl Try.func11 (by kernel_rfl) rfl #[.agg #[.int .i64 a0_0, .int .i64 a0_1]] rfl (by (try simp only [List.map_toArray, List.map_cons, List.map_nil]); first | done | rfl | (simp only [List.length_drop, List.length_take]; rfl)) ?_; (with_reducible refine (fact_Fine.calls a0_0 a0_1 t105 _ A3.out).mono ?_); rintro e w27 ⟨rfl, hb⟩; refine ⟨_, rfl, ?_⟩; have n0_ := Aside0.mk (blk_below (bk_ BK103.out) hb); have n1_ := Aside0.mk (blk_below (bk_ BK104.out) hb); have n2_ := Aside0.mk (below_step (bw_ HB.out) hb); clear BK103 BK104 HB; have BK103 := n0_; have BK104 := n1_; have HB := n2_; clear n0_ n1_ n2_; (try clear hb); (try clear hb2); (try clear hk); (try clear hi); have hcz28_0 : w27.cell? ⟨gb104, 0, none⟩ = some (.int .i64 a1_0) := (blk_cell BK104.out 0).trans rfl; have hcz28_1 : w27.cell? ⟨gb104, 1, none⟩ = some (.slice A1_1 l1_1.length c1_1) := (blk_cell BK104.out 1).trans rfl; have hcz28_2 : w27.cell? ⟨gb104, 2, none⟩ = some (.slice A1_2 l1_2.length c1_2) := (blk_cell BK104.out 2).trans rfl; have hfz28_0 := blk_frozen BK104.out 0; have hfz28_1 := blk_frozen BK104.out 1; have hfz28_2 := blk_frozen BK104.out 2; have hcz29_0 : w27.cell? ⟨gb103, 0, none⟩ = some (.int .i64 a0_0) := (blk_cell BK103.out 0).trans rfl; have hcz29_1 : w27.cell? ⟨gb103, 1, none⟩ = some (.int .i64 a0_1) := (blk_cell BK103.out 1).trans rfl; have hfz29_0 := blk_frozen BK103.out 0; have hfz29_1 := blk_frozen BK103.out 1) | (go_at_call 28; (with_reducible refine (slices_ContainsFunc_string_string_at_fact_Check_1.calls _ _ l1_1 true _ ?side1 ?side2 A21.out).mono ?_); (case side1 => repeat (first | exact (Kd.C_below HR1_1.out HB.out) | (with_reducible refine Kd.C_alloc ?_ _) | (with_reducible refine Kd.C_drewN ?_ _) | (with_reducible refine Kd.C_drew ?_))); (case side2 => exact HC1_1.out); rintro e w' ⟨rfl, ⟨nd, rfl⟩⟩))
       go_ret
       exact ⟨by first | rfl | (simp [errW_none, errW_some] <;> rfl) | (simp [*, errW_none, errW_some] <;> rfl), by repeat (first | (with_reducible first | exact HB.out | apply below_alloc | apply pw_below_drewN | apply below_drew1 | refine below_set ?_ GE103.out | refine below_set ?_ GE104.out) | exact HB.out)⟩
      ·replace c22 := Bool.eq_false_iff.mpr c22
       subst c22
       have H1 : (some 0) = some r := by rw [if_neg (show ¬ (false = true) by decide)] at H; exact H
       clear H
       have H := H1
       clear H1
       obtain rfl := Option.some.inj H
       go_enter Try.func12, Try.ntmps12
       go_wp2_with (first | ((with_reducible refine gate_dst (N := 2) rfl ?_); (try (refine gate_guard (by rfl) ?_; dsimp only)); refine bx_ (N := 2) (cs := #[.int .i64 a0_0, .int .i64 a0_1]) (t := 23) ?_; intro gb103 hg w30 hbox hb; have n0_ := Aside0.mk (below_step (bw_ HB.out) hb); have n1_ := Aside0.mk (hbox); have n2_ := Aside0.mk (sz_ hg (bw_ HB.out)); have n3_ := n2_; clear HB; have HB := n0_; have BK103 := n1_; have GW103 := n2_; have GE103 := n3_; clear n0_ n1_ n2_ n3_; clear hb hbox hg) | ((with_reducible refine gate_dst (N := 3) rfl ?_); (try (refine gate_guard (by rfl) ?_; dsimp only)); refine bx_ (N := 3) (cs := #[.int .i64 a1_0, .slice A1_1 l1_1.length c1_1, .slice A1_2 l1_2.length c1_2]) (t := 27) ?_; intro gb104 hg w31 hbox hb; have n0_ := Aside0.mk (blk_below (bk_ BK103.out) hb); have n1_ := Aside0.mk (below_step (bw_ HB.out) hb); have n2_ := Aside0.mk (hbox); have n3_ := Aside0.mk (sz_ hg (bw_ HB.out)); have n4_ := n3_; have n5_ := Aside0.mk (ne_ hg (blk_lt (bk_ BK103.out))); have n6_ := Aside0.mk n5_.out.symm; clear BK103 HB; have BK103 := n0_; have HB := n1_; have BK104 := n2_; have GW104 := n3_; have GE104 := n4_; have NB103_104 := n5_; have NB104_103 := n6_; clear n0_ n1_ n2_ n3_ n4_ n5_ n6_; clear hb hbox hg; have hnb32 := NB103_104.out; have hnc32 := NB104_103.out; have hcz33_0 : w31.cell? ⟨gb103, 0, none⟩ = some (.int .i64 a0_0) := (blk_cell BK103.out 0).trans rfl; have hcz33_1 : w31.cell? ⟨gb103, 1, none⟩ = some (.int .i64 a0_1) := (blk_cell BK103.out 1).trans rfl; have hfz33_0 := blk_frozen BK103.out 0; have hfz33_1 := blk_frozen BK103.out 1) | ((with_reducible refine gate_callee (f := 11) rfl ?_); refine goesL_ (some 8) rfl rfl Try.func11 (by kernel_rfl) rfl #[.agg #[.int .i64 a0_0, .int .i64 a0_1]] rfl (by (try simp only [List.map_toArray, List.map_cons, List.map_nil]); first | done | rfl | (simp only [List.length_drop, List.length_take]; rfl)) ?_; (with_reducible refine (fact_Fine.calls a0_0 a0_1 t105 _ A3.out).mono ?_); rintro e w34 ⟨rfl, hb⟩; refine ⟨_, rfl, ?_⟩; have n0_ := Aside0.mk (blk_below (bk_ BK103.out) hb); have n1_ := Aside0.mk (blk_below (bk_ BK104.out) hb); have n2_ := Aside0.mk (below_step (bw_ HB.out) hb); clear BK103 BK104 HB; have BK103 := n0_; have BK104 := n1_; have HB := n2_; clear n0_ n1_ n2_; (try clear hb); (try clear hb2); (try clear hk); (try clear hi); have hcz35_0 : w34.cell? ⟨gb104, 0, none⟩ = some (.int .i64 a1_0) := (blk_cell BK104.out 0).trans rfl; have hcz35_1 : w34.cell? ⟨gb104, 1, none⟩ = some (.slice A1_1 l1_1.length c1_1) := (blk_cell BK104.out 1).trans rfl; have hcz35_2 : w34.cell? ⟨gb104, 2, none⟩ = some (.slice A1_2 l1_2.length c1_2) := (blk_cell BK104.out 2).trans rfl; have hfz35_0 := blk_frozen BK104.out 0; have hfz35_1 := blk_frozen BK104.out 1; have hfz35_2 := blk_frozen BK104.out 2; have hcz36_0 : w34.cell? ⟨gb103, 0, none⟩ = some (.int .i64 a0_0) := (blk_cell BK103.out 0).trans rfl; have hcz36_1 : w34.cell? ⟨gb103, 1, none⟩ = some (.int .i64 a0_1) := (blk_cell BK103.out 1).trans rfl; have hfz36_0 := blk_frozen BK103.out 0; have hfz36_1 := blk_frozen BK103.out 1) | (go_at_call 28; (with_reducible refine (slices_ContainsFunc_string_string_at_fact_Check_1.calls _ _ l1_1 false _ ?side1 ?side2 A21.out).mono ?_); (case side1 => repeat (first | exact (Kd.C_below HR1_1.out HB.out) | (with_reducible refine Kd.C_alloc ?_ _) | (with_reducible refine Kd.C_drewN ?_ _) | (with_reducible refine Kd.C_drew ?_))); (case side2 => exact HC1_1.out); rintro e w' ⟨rfl, ⟨nd, rfl⟩⟩))
       go_ret
       exact ⟨by first | rfl | (simp [errW_none, errW_some] <;> rfl) | (simp [*, errW_none, errW_some] <;> rfl), by repeat (first | (with_reducible first | exact HB.out | apply below_alloc | apply pw_below_drewN | apply below_drew1 | refine below_set ?_ GE103.out | refine below_set ?_ GE104.out) | exact HB.out)⟩
     ·rw [if_neg c20] at H
      have c20b0 : ((l1_2.length : Int) == a0_1) = false := beq_eq_false_iff_ne.mpr c20
      have c20b1 : ((l1_2.length : Int) != a0_1) = true := bne_iff_ne.mpr c20
      obtain rfl := Option.some.inj H
      go_enter Try.func12, Try.ntmps12
      go_wp2_with (first | ((with_reducible refine gate_dst (N := 2) rfl ?_); (try (refine gate_guard (by rfl) ?_; dsimp only)); refine bx_ (N := 2) (cs := #[.int .i64 a0_0, .int .i64 a0_1]) (t := 23) ?_; intro gb103 hg w37 hbox hb; have n0_ := Aside0.mk (below_step (bw_ HB.out) hb); have n1_ := Aside0.mk (hbox); have n2_ := Aside0.mk (sz_ hg (bw_ HB.out)); have n3_ := n2_; clear HB; have HB := n0_; have BK103 := n1_; have GW103 := n2_; have GE103 := n3_; clear n0_ n1_ n2_ n3_; clear hb hbox hg) | ((with_reducible refine gate_dst (N := 3) rfl ?_); (try (refine gate_guard (by rfl) ?_; dsimp only)); refine bx_ (N := 3) (cs := #[.int .i64 a1_0, .slice A1_1 l1_1.length c1_1, .slice A1_2 l1_2.length c1_2]) (t := 27) ?_; intro gb104 hg w38 hbox hb; have n0_ := Aside0.mk (blk_below (bk_ BK103.out) hb); have n1_ := Aside0.mk (below_step (bw_ HB.out) hb); have n2_ := Aside0.mk (hbox); have n3_ := Aside0.mk (sz_ hg (bw_ HB.out)); have n4_ := n3_; have n5_ := Aside0.mk (ne_ hg (blk_lt (bk_ BK103.out))); have n6_ := Aside0.mk n5_.out.symm; clear BK103 HB; have BK103 := n0_; have HB := n1_; have BK104 := n2_; have GW104 := n3_; have GE104 := n4_; have NB103_104 := n5_; have NB104_103 := n6_; clear n0_ n1_ n2_ n3_ n4_ n5_ n6_; clear hb hbox hg; have hnb39 := NB103_104.out; have hnc39 := NB104_103.out; have hcz40_0 : w38.cell? ⟨gb103, 0, none⟩ = some (.int .i64 a0_0) := (blk_cell BK103.out 0).trans rfl; have hcz40_1 : w38.cell? ⟨gb103, 1, none⟩ = some (.int .i64 a0_1) := (blk_cell BK103.out 1).trans rfl; have hfz40_0 := blk_frozen BK103.out 0; have hfz40_1 := blk_frozen BK103.out 1) | ((with_reducible refine gate_callee (f := 11) rfl ?_); refine goesL_ (some 8) rfl rfl Try.func11 (by kernel_rfl) rfl #[.agg #[.int .i64 a0_0, .int .i64 a0_1]] rfl (by (try simp only [List.map_toArray, List.map_cons, List.map_nil]); first | done | rfl | (simp only [List.length_drop, List.length_take]; rfl)) ?_; (with_reducible refine (fact_Fine.calls a0_0 a0_1 t105 _ A3.out).mono ?_); rintro e w41 ⟨rfl, hb⟩; refine ⟨_, rfl, ?_⟩; have n0_ := Aside0.mk (blk_below (bk_ BK103.out) hb); have n1_ := Aside0.mk (blk_below (bk_ BK104.out) hb); have n2_ := Aside0.mk (below_step (bw_ HB.out) hb); clear BK103 BK104 HB; have BK103 := n0_; have BK104 := n1_; have HB := n2_; clear n0_ n1_ n2_; (try clear hb); (try clear hb2); (try clear hk); (try clear hi); have hcz42_0 : w41.cell? ⟨gb104, 0, none⟩ = some (.int .i64 a1_0) := (blk_cell BK104.out 0).trans rfl; have hcz42_1 : w41.cell? ⟨gb104, 1, none⟩ = some (.slice A1_1 l1_1.length c1_1) := (blk_cell BK104.out 1).trans rfl; have hcz42_2 : w41.cell? ⟨gb104, 2, none⟩ = some (.slice A1_2 l1_2.length c1_2) := (blk_cell BK104.out 2).trans rfl; have hfz42_0 := blk_frozen BK104.out 0; have hfz42_1 := blk_frozen BK104.out 1; have hfz42_2 := blk_frozen BK104.out 2; have hcz43_0 : w41.cell? ⟨gb103, 0, none⟩ = some (.int .i64 a0_0) := (blk_cell BK103.out 0).trans rfl; have hcz43_1 : w41.cell? ⟨gb103, 1, none⟩ = some (.int .i64 a0_1) := (blk_cell BK103.out 1).trans rfl; have hfz43_0 := blk_frozen BK103.out 0; have hfz43_1 := blk_frozen BK103.out 1))
      go_ret
      exact ⟨by first | rfl | (simp [errW_none, errW_some] <;> rfl) | (simp [*, errW_none, errW_some] <;> rfl), by repeat (first | (with_reducible first | exact HB.out | apply below_alloc | apply pw_below_drewN | apply below_drew1 | refine below_set ?_ GE103.out | refine below_set ?_ GE104.out) | exact HB.out)⟩
    ·rw [if_neg c19] at H
     have c19b0 : ((l1_1.length : Int) == a0_0) = false := beq_eq_false_iff_ne.mpr c19
     have c19b1 : ((l1_1.length : Int) != a0_0) = true := bne_iff_ne.mpr c19
     obtain rfl := Option.some.inj H
     go_enter Try.func12, Try.ntmps12
     go_wp2_with (first | ((with_reducible refine gate_dst (N := 2) rfl ?_); (try (refine gate_guard (by rfl) ?_; dsimp only)); refine bx_ (N := 2) (cs := #[.int .i64 a0_0, .int .i64 a0_1]) (t := 23) ?_; intro gb103 hg w44 hbox hb; have n0_ := Aside0.mk (below_step (bw_ HB.out) hb); have n1_ := Aside0.mk (hbox); have n2_ := Aside0.mk (sz_ hg (bw_ HB.out)); have n3_ := n2_; clear HB; have HB := n0_; have BK103 := n1_; have GW103 := n2_; have GE103 := n3_; clear n0_ n1_ n2_ n3_; clear hb hbox hg) | ((with_reducible refine gate_dst (N := 3) rfl ?_); (try (refine gate_guard (by rfl) ?_; dsimp only)); refine bx_ (N := 3) (cs := #[.int .i64 a1_0, .slice A1_1 l1_1.length c1_1, .slice A1_2 l1_2.length c1_2]) (t := 27) ?_; intro gb104 hg w45 hbox hb; have n0_ := Aside0.mk (blk_below (bk_ BK103.out) hb); have n1_ := Aside0.mk (below_step (bw_ HB.out) hb); have n2_ := Aside0.mk (hbox); have n3_ := Aside0.mk (sz_ hg (bw_ HB.out)); have n4_ := n3_; have n5_ := Aside0.mk (ne_ hg (blk_lt (bk_ BK103.out))); have n6_ := Aside0.mk n5_.out.symm; clear BK103 HB; have BK103 := n0_; have HB := n1_; have BK104 := n2_; have GW104 := n3_; have GE104 := n4_; have NB103_104 := n5_; have NB104_103 := n6_; clear n0_ n1_ n2_ n3_ n4_ n5_ n6_; clear hb hbox hg; have hnb46 := NB103_104.out; have hnc46 := NB104_103.out; have hcz47_0 : w45.cell? ⟨gb103, 0, none⟩ = some (.int .i64 a0_0) := (blk_cell BK103.out 0).trans rfl; have hcz47_1 : w45.cell? ⟨gb103, 1, none⟩ = some (.int .i64 a0_1) := (blk_cell BK103.out 1).trans rfl; have hfz47_0 := blk_frozen BK103.out 0; have hfz47_1 := blk_frozen BK103.out 1) | ((with_reducible refine gate_callee (f := 11) rfl ?_); refine goesL_ (some 8) rfl rfl Try.func11 (by kernel_rfl) rfl #[.agg #[.int .i64 a0_0, .int .i64 a0_1]] rfl (by (try simp only [List.map_toArray, List.map_cons, List.map_nil]); first | done | rfl | (simp only [List.length_drop, List.length_take]; rfl)) ?_; (with_reducible refine (fact_Fine.calls a0_0 a0_1 t105 _ A3.out).mono ?_); rintro e w48 ⟨rfl, hb⟩; refine ⟨_, rfl, ?_⟩; have n0_ := Aside0.mk (blk_below (bk_ BK103.out) hb); have n1_ := Aside0.mk (blk_below (bk_ BK104.out) hb); have n2_ := Aside0.mk (below_step (bw_ HB.out) hb); clear BK103 BK104 HB; have BK103 := n0_; have BK104 := n1_; have HB := n2_; clear n0_ n1_ n2_; (try clear hb); (try clear hb2); (try clear hk); (try clear hi); have hcz49_0 : w48.cell? ⟨gb104, 0, none⟩ = some (.int .i64 a1_0) := (blk_cell BK104.out 0).trans rfl; have hcz49_1 : w48.cell? ⟨gb104, 1, none⟩ = some (.slice A1_1 l1_1.length c1_1) := (blk_cell BK104.out 1).trans rfl; have hcz49_2 : w48.cell? ⟨gb104, 2, none⟩ = some (.slice A1_2 l1_2.length c1_2) := (blk_cell BK104.out 2).trans rfl; have hfz49_0 := blk_frozen BK104.out 0; have hfz49_1 := blk_frozen BK104.out 1; have hfz49_2 := blk_frozen BK104.out 2; have hcz50_0 : w48.cell? ⟨gb103, 0, none⟩ = some (.int .i64 a0_0) := (blk_cell BK103.out 0).trans rfl; have hcz50_1 : w48.cell? ⟨gb103, 1, none⟩ = some (.int .i64 a0_1) := (blk_cell BK103.out 1).trans rfl; have hfz50_0 := blk_frozen BK103.out 0; have hfz50_1 := blk_frozen BK103.out 1))
     go_ret
     exact ⟨by first | rfl | (simp [errW_none, errW_some] <;> rfl) | (simp [*, errW_none, errW_some] <;> rfl), by repeat (first | (with_reducible first | exact HB.out | apply below_alloc | apply pw_below_drewN | apply below_drew1 | refine below_set ?_ GE103.out | refine below_set ?_ GE104.out) | exact HB.out)⟩
 ·rw [if_neg c4] at H
  have c4b0 : (t105 == 0) = false := beq_eq_false_iff_ne.mpr c4
  have c4b1 : (t105 != 0) = true := bne_iff_ne.mpr c4
  obtain rfl := Option.some.inj H
  go_enter Try.func12, Try.ntmps12
  go_wp2_with (first | ((with_reducible refine gate_dst (N := 2) rfl ?_); (try (refine gate_guard (by rfl) ?_; dsimp only)); refine bx_ (N := 2) (cs := #[.int .i64 a0_0, .int .i64 a0_1]) (t := 23) ?_; intro gb103 hg w51 hbox hb; have n0_ := Aside0.mk (below_step (bw_ HB.out) hb); have n1_ := Aside0.mk (hbox); have n2_ := Aside0.mk (sz_ hg (bw_ HB.out)); have n3_ := n2_; clear HB; have HB := n0_; have BK103 := n1_; have GW103 := n2_; have GE103 := n3_; clear n0_ n1_ n2_ n3_; clear hb hbox hg) | ((with_reducible refine gate_dst (N := 3) rfl ?_); (try (refine gate_guard (by rfl) ?_; dsimp only)); refine bx_ (N := 3) (cs := #[.int .i64 a1_0, .slice A1_1 l1_1.length c1_1, .slice A1_2 l1_2.length c1_2]) (t := 27) ?_; intro gb104 hg w52 hbox hb; have n0_ := Aside0.mk (blk_below (bk_ BK103.out) hb); have n1_ := Aside0.mk (below_step (bw_ HB.out) hb); have n2_ := Aside0.mk (hbox); have n3_ := Aside0.mk (sz_ hg (bw_ HB.out)); have n4_ := n3_; have n5_ := Aside0.mk (ne_ hg (blk_lt (bk_ BK103.out))); have n6_ := Aside0.mk n5_.out.symm; clear BK103 HB; have BK103 := n0_; have HB := n1_; have BK104 := n2_; have GW104 := n3_; have GE104 := n4_; have NB103_104 := n5_; have NB104_103 := n6_; clear n0_ n1_ n2_ n3_ n4_ n5_ n6_; clear hb hbox hg; have hnb53 := NB103_104.out; have hnc53 := NB104_103.out; have hcz54_0 : w52.cell? ⟨gb103, 0, none⟩ = some (.int .i64 a0_0) := (blk_cell BK103.out 0).trans rfl; have hcz54_1 : w52.cell? ⟨gb103, 1, none⟩ = some (.int .i64 a0_1) := (blk_cell BK103.out 1).trans rfl; have hfz54_0 := blk_frozen BK103.out 0; have hfz54_1 := blk_frozen BK103.out 1) | ((with_reducible refine gate_callee (f := 11) rfl ?_); refine goesL_ (some 8) rfl rfl Try.func11 (by kernel_rfl) rfl #[.agg #[.int .i64 a0_0, .int .i64 a0_1]] rfl (by (try simp only [List.map_toArray, List.map_cons, List.map_nil]); first | done | rfl | (simp only [List.length_drop, List.length_take]; rfl)) ?_; (with_reducible refine (fact_Fine.calls a0_0 a0_1 t105 _ A3.out).mono ?_); rintro e w55 ⟨rfl, hb⟩; refine ⟨_, rfl, ?_⟩; have n0_ := Aside0.mk (blk_below (bk_ BK103.out) hb); have n1_ := Aside0.mk (blk_below (bk_ BK104.out) hb); have n2_ := Aside0.mk (below_step (bw_ HB.out) hb); clear BK103 BK104 HB; have BK103 := n0_; have BK104 := n1_; have HB := n2_; clear n0_ n1_ n2_; (try clear hb); (try clear hb2); (try clear hk); (try clear hi)))
  go_ret
  exact ⟨by first | rfl | (simp [errW_none, errW_some] <;> rfl) | (simp [*, errW_none, errW_some] <;> rfl), by repeat (first | (with_reducible first | exact HB.out | apply below_alloc | apply pw_below_drewN | apply below_drew1 | refine below_set ?_ GE103.out | refine below_set ?_ GE104.out) | exact HB.out)⟩
end Go.Proofs.Ytfeeahjaeapkoaa.P
end

section
namespace Go.Proofs.Ytfeeahjaeapkoaa.P
set_option linter.unusedVariables false
set_option linter.unusedSimpArgs false
open Go.RowKit Go.Proofs.YtfeeahjaeapkoaaW.PrintWords Go.Proofs.YtfeeahjaeapkoaaW.PrintLast Go.Proofs.YtfeeahjaeapkoaaW.PrintMore Go.Proofs.Ytfeeahjaeapkoaa.Lib Go.Proofs.Ytfeeahjaeapkoaa.Ext
section
variable {P : Program} {ops : Array Oper} {o : Oper} {a : Act} {Q : Exit → Act → World → Prop}
theorem row_event {rest : List Oper} {W : World} (hgd : o.guard = none) {N : Tmp} (_hd : o.dst = some N) {cs : Array Value} {t : TypeId} {n c : Nat}
    (hrun : (execOp a.eval o).run P W = .ok (.value (.slice (some ⟨W.heap.size, 0, none⟩) n c)) (W.alloc (.cells cs t (0, 0))))
    (h : ∀ g, g = W.heap.size → ∀ w1, w1.heap[g]? = some (.cells cs t (0, 0)) → Below W.heap.size W w1 → wpList P ops Q rest (a.put o.dst (.slice (some ⟨g, 0, none⟩) n c)) w1) : wpList P ops Q (o :: rest) a W :=
  Kd.event_run hgd hrun (h _ rfl _ (blk_new W _) (below_alloc (Below.refl _ _) _))
end
theorem C_no {α : Type} {d : Kd α} {w : World} : Kd.C d w none 0 [] := ⟨rfl, by decide, fun h => absurd h (Nat.lt_irrefl 0)⟩
def strA : ByteArray := ⟨#[97]⟩
def fX : S27 := ⟨1, [strA], []⟩
def fY : S27 := ⟨2, [], []⟩
theorem C_strs1 {w : World} {g : Nat} {s : ByteArray} {E : Nat} (hb : w.heap[g]? = some (.cells #[.string s] E (0, 0))) : Kd.string.C w (some ⟨g, 0, none⟩) 1 [s] := by
  refine ⟨rfl, by simp, fun _ => ⟨_, rfl, fun q p hp => ?_⟩⟩
  match q, hp with
  | 0, hp =>
    obtain rfl : s = p := by simpa using hp
    refine ⟨[.string s], rfl, rfl, fun i u hu => ?_⟩
    match i, hu with
    | 0, hu =>
      obtain rfl : Value.string s = u := by simpa using hu
      exact (blk_cell hb 0).trans rfl
    | i + 1, hu => simp at hu
  | q + 1, hp => simp at hp
theorem C_facts3 {w : World} {g g1 : Nat} {E : Nat} (hb : w.heap[g]? = some (.cells #[.int .i64 1, .slice (some ⟨g1, 0, none⟩) 1 1, .slice none 0 0, .int .i64 2, .slice none 0 0, .slice none 0 0, .int .i64 1, .slice (some ⟨g1, 0, none⟩) 1 1, .slice none 0 0] E (0, 0))) (hs : Kd.string.C w (some ⟨g1, 0, none⟩) 1 [strA]) : Kd.C k27 w (some ⟨g, 0, none⟩) 3 [fX, fY, fX] := by
  have kX : k27.K w fX [.int .i64 1, .slice (some ⟨g1, 0, none⟩) 1 1, .slice none 0 0] := k27_mk w fX (A1 := some ⟨g1, 0, none⟩) (c1 := 1) (Nat.le_refl _) hs (A2 := none) (c2 := 0) (Nat.le_refl _) C_no
  have kY : k27.K w fY [.int .i64 2, .slice none 0 0, .slice none 0 0] := k27_mk w fY (A1 := none) (c1 := 0) (Nat.le_refl _) C_no (A2 := none) (c2 := 0) (Nat.le_refl _) C_no
  have cell : ∀ i u, (#[Value.int .i64 1, .slice (some ⟨g1, 0, none⟩) 1 1, .slice none 0 0, .int .i64 2, .slice none 0 0, .slice none 0 0, .int .i64 1, .slice (some ⟨g1, 0, none⟩) 1 1, .slice none 0 0] : Array Value)[i]? = some u → w.cell? ⟨g, i, none⟩ = some u := fun i u h => (blk_cell hb i).trans h
  have e3 : k27.sz = 3 := rfl
  refine ⟨rfl, by simp, fun _ => ⟨_, rfl, fun q p hp => ?_⟩⟩
  match q, hp with
  | 0, hp =>
    obtain rfl : fX = p := by simpa using hp
    refine ⟨_, rfl, kX, fun i u hu => ?_⟩
    rw [e3, add_at]
    match i, hu with
    | 0, hu => exact cell 0 u hu
    | 1, hu => exact cell 1 u hu
    | 2, hu => exact cell 2 u hu
    | i + 3, hu => simp at hu
  | 1, hp =>
    obtain rfl : fY = p := by simpa using hp
    refine ⟨_, rfl, kY, fun i u hu => ?_⟩
    rw [e3, add_at]
    match i, hu with
    | 0, hu => exact cell 3 u hu
    | 1, hu => exact cell 4 u hu
    | 2, hu => exact cell 5 u hu
    | i + 3, hu => simp at hu
  | 2, hp =>
    obtain rfl : fX = p := by simpa using hp
    refine ⟨_, rfl, kX, fun i u hu => ?_⟩
    rw [e3, add_at]
    match i, hu with
    | 0, hu => exact cell 6 u hu
    | 1, hu => exact cell 7 u hu
    | 2, hu => exact cell 8 u hu
    | i + 3, hu => simp at hu
  | q + 3, hp => simp at hp
theorem bagXYX : (bagOf ([fX, fY, fX].map m27)).map s40 = [⟨fX, 2⟩, ⟨fY, 1⟩] := by
  kernel_rfl
theorem countXY : fact_Count.f 10 [⟨fX, 2⟩, ⟨fY, 1⟩] = some 3 := by kernel_rfl
theorem checkX1 : fact_Check.f 1 0 1 [strA] [] = some 0 := by kernel_rfl
theorem checkX0 : fact_Check.f 0 0 1 [strA] [] = some 40 := by kernel_rfl
theorem compareXY : fact_Compare.f 20 1 [strA] [] 2 [] [] = some (-1) := by kernel_rfl
def gristmilllaw04_awake.f : Option Bool := some true
set_option maxRecDepth 100000 in
set_option maxHeartbeats 1600000 in
theorem gristmilllaw04_awake.calls (r : Bool) (w : World) (h : gristmilllaw04_awake.f = some r) :
    Calls Try.prog 9 #[] w fun e w' => e = .returned (.bool r) ∧ Below w.heap.size w w' := by
  injection h with h
  subst h
  go_enter Try.func9, Try.ntmps9
  go_upto_region 2 with (first
    | ((with_reducible refine gate_dst (N := 4) rfl ?_); refine row_event ?hg (N := 4) ?hd (cs := #[.string strA]) (t := 9) (n := 1) (c := 1) ?hr ?_; (case hd => rfl); (case hg => rfl); (case hr => first | (go_simp; done) | (go_simp; rfl)); intro g1 hg w1 hbox hb; have BK1 := Aside0.mk hbox; have HX1 := Aside0.mk hb; clear hg hbox hb)
    | (((with_reducible refine gate_dst (N := 1) rfl ?_); refine box_event ?hg (N := 1) ?hd (cs := #[.int .i64 0, .slice none 0 0, .slice none 0 0]) (t := 27) ?hr ?_; (case hd => rfl); (case hg => rfl); (case hr => first | (go_simp; done) | (go_simp; rfl)); intro g2 hg w2 hbox hb; have GE2 := Aside0.mk (Nat.le_of_eq hg.symm); have BK2 := Aside0.mk hbox; have HX2 := Aside0.mk hb; clear hg hbox hb); (have hg2_0 : w2.cell? ⟨g2, 0, none⟩ = some (.int .i64 0) := (blk_cell BK2.out 0).trans rfl; have hfg2_0 := blk_frozen BK2.out 0; have hg2_1 : w2.cell? ⟨g2, 1, none⟩ = some (.slice none 0 0) := (blk_cell BK2.out 1).trans rfl; have hfg2_1 := blk_frozen BK2.out 1; have hg2_2 : w2.cell? ⟨g2, 2, none⟩ = some (.slice none 0 0) := (blk_cell BK2.out 2).trans rfl; have hfg2_2 := blk_frozen BK2.out 2))
    | fail)
  have HX2a := Aside0.mk (show Below w1.heap.size w1 (((w2.setCell ⟨g2, 0, none⟩ (.int .i64 1)).setCell ⟨g2, 1, none⟩ (.slice (some ⟨g1, 0, none⟩) 1 1)).setCell ⟨g2, 2, none⟩ (.slice none 0 0)) from below_set (below_set (below_set HX2.out GE2.out) GE2.out) GE2.out)
  have BK2a := Aside0.mk (show (((w2.setCell ⟨g2, 0, none⟩ (.int .i64 1)).setCell ⟨g2, 1, none⟩ (.slice (some ⟨g1, 0, none⟩) 1 1)).setCell ⟨g2, 2, none⟩ (.slice none 0 0)).heap[g2]? = some (.cells #[.int .i64 1, .slice (some ⟨g1, 0, none⟩) 1 1, .slice none 0 0] 27 (0, 0)) from (blk_set (blk_set (blk_set BK2.out 0 _) 1 _) 2 _))
  clear hg2_0 hfg2_0 hg2_1 hfg2_1 hg2_2 hfg2_2 BK2 HX2
  generalize (((w2.setCell ⟨g2, 0, none⟩ (.int .i64 1)).setCell ⟨g2, 1, none⟩ (.slice (some ⟨g1, 0, none⟩) 1 1)).setCell ⟨g2, 2, none⟩ (.slice none 0 0)) = w3 at *
  have BK1a := Aside0.mk (blk_below BK1.out HX2a.out)
  have HB3 := Aside0.mk (below_then HX1.out HX1.out.size HX2a.out)
  clear BK1 HX1 HX2a GE2
  go_upto_region 3 with (first
    | (((with_reducible refine gate_dst (N := 2) rfl ?_); refine box_event ?hg (N := 2) ?hd (cs := #[.int .i64 0, .slice none 0 0, .slice none 0 0]) (t := 27) ?hr ?_; (case hd => rfl); (case hg => rfl); (case hr => first | (go_simp; done) | (go_simp; rfl)); intro g4 hg w4 hbox hb; have GE4 := Aside0.mk (Nat.le_of_eq hg.symm); have BK4 := Aside0.mk hbox; have HX4 := Aside0.mk hb; clear hg hbox hb); (have hg4_0 : w4.cell? ⟨g4, 0, none⟩ = some (.int .i64 0) := (blk_cell BK4.out 0).trans rfl; have hfg4_0 := blk_frozen BK4.out 0; have hg4_1 : w4.cell? ⟨g4, 1, none⟩ = some (.slice none 0 0) := (blk_cell BK4.out 1).trans rfl; have hfg4_1 := blk_frozen BK4.out 1; have hg4_2 : w4.cell? ⟨g4, 2, none⟩ = some (.slice none 0 0) := (blk_cell BK4.out 2).trans rfl; have hfg4_2 := blk_frozen BK4.out 2))
    | fail)
  have HX4a := Aside0.mk (show Below w3.heap.size w3 (((w4.setCell ⟨g4, 0, none⟩ (.int .i64 2)).setCell ⟨g4, 1, none⟩ (.slice none 0 0)).setCell ⟨g4, 2, none⟩ (.slice none 0 0)) from below_set (below_set (below_set HX4.out GE4.out) GE4.out) GE4.out)
  have BK4a := Aside0.mk (show (((w4.setCell ⟨g4, 0, none⟩ (.int .i64 2)).setCell ⟨g4, 1, none⟩ (.slice none 0 0)).setCell ⟨g4, 2, none⟩ (.slice none 0 0)).heap[g4]? = some (.cells #[.int .i64 2, .slice none 0 0, .slice none 0 0] 27 (0, 0)) from (blk_set (blk_set (blk_set BK4.out 0 _) 1 _) 2 _))
  clear hg4_0 hfg4_0 hg4_1 hfg4_1 hg4_2 hfg4_2 BK4 HX4
  generalize (((w4.setCell ⟨g4, 0, none⟩ (.int .i64 2)).setCell ⟨g4, 1, none⟩ (.slice none 0 0)).setCell ⟨g4, 2, none⟩ (.slice none 0 0)) = w5 at *
  have BK1b := Aside0.mk (blk_below BK1a.out HX4a.out)
  have BK2b := Aside0.mk (blk_below BK2a.out HX4a.out)
  have HB5 := Aside0.mk (below_then HB3.out HB3.out.size HX4a.out)
  clear BK1a BK2a HB3 HX4a GE4
  (have hg2_0 : w5.cell? ⟨g2, 0, none⟩ = some (.int .i64 1) := (blk_cell BK2b.out 0).trans rfl; have hfg2_0 := blk_frozen BK2b.out 0; have hg2_1 : w5.cell? ⟨g2, 1, none⟩ = some (.slice (some ⟨g1, 0, none⟩) 1 1) := (blk_cell BK2b.out 1).trans rfl; have hfg2_1 := blk_frozen BK2b.out 1; have hg2_2 : w5.cell? ⟨g2, 2, none⟩ = some (.slice none 0 0) := (blk_cell BK2b.out 2).trans rfl; have hfg2_2 := blk_frozen BK2b.out 2)
  (have hg4_0 : w5.cell? ⟨g4, 0, none⟩ = some (.int .i64 2) := (blk_cell BK4a.out 0).trans rfl; have hfg4_0 := blk_frozen BK4a.out 0; have hg4_1 : w5.cell? ⟨g4, 1, none⟩ = some (.slice none 0 0) := (blk_cell BK4a.out 1).trans rfl; have hfg4_1 := blk_frozen BK4a.out 1; have hg4_2 : w5.cell? ⟨g4, 2, none⟩ = some (.slice none 0 0) := (blk_cell BK4a.out 2).trans rfl; have hfg4_2 := blk_frozen BK4a.out 2)
  go_upto_region 4 with (first
    | ((with_reducible refine gate_dst (N := 10) rfl ?_); refine row_event ?hg (N := 10) ?hd (cs := #[.int .i64 1, .slice (some ⟨g1, 0, none⟩) 1 1, .slice none 0 0, .int .i64 2, .slice none 0 0, .slice none 0 0, .int .i64 1, .slice (some ⟨g1, 0, none⟩) 1 1, .slice none 0 0]) (t := 27) (n := 3) (c := 3) ?hr ?_; (case hd => rfl); (case hg => rfl); (case hr => first | (go_simp; done) | (go_simp; rfl)); intro g6 hg w6 hbox hb; have BK6 := Aside0.mk hbox; have HX6 := Aside0.mk hb; clear hg hbox hb)
    | (go_at_call 16; refine (fact_Bag.calls (some ⟨g6, 0, none⟩) 3 [fX, fY, fX] _ w6 (C_facts3 BK6.out (C_strs1 (blk_below BK1b.out HX6.out))) (Nat.le_refl _) (by unfold fact_Bag.f; rw [if_pos ⟨by decide, by decide⟩, bagXYX])).mono ?_; rintro e w7 ⟨v7, rfl, hr7, hb7⟩; rcases R_cases hr7 with ⟨-, h0⟩ | ⟨g7, c7, rfl, -, -⟩; (case inl => cases h0); have HR7 := Aside0.mk hr7; have HX7 := Aside0.mk (below_then HX6.out HX6.out.size hb7); clear hr7 hb7)
    | fail)
  have BK1p := Aside0.mk (blk_below BK1b.out HX7.out)
  have BK2p := Aside0.mk (blk_below BK2b.out HX7.out)
  have BK4p := Aside0.mk (blk_below BK4a.out HX7.out)
  have HBp := Aside0.mk (below_then HB5.out HB5.out.size HX7.out)
  have HRp := HR7
  clear BK1b BK2b BK4a HB5 HX7 HR7
  clear hg2_0 hfg2_0 hg2_1 hfg2_1 hg2_2 hfg2_2
  clear hg4_0 hfg4_0 hg4_1 hfg4_1 hg4_2 hfg4_2
  (have hg2_0 : w7.cell? ⟨g2, 0, none⟩ = some (.int .i64 1) := (blk_cell BK2p.out 0).trans rfl; have hfg2_0 := blk_frozen BK2p.out 0; have hg2_1 : w7.cell? ⟨g2, 1, none⟩ = some (.slice (some ⟨g1, 0, none⟩) 1 1) := (blk_cell BK2p.out 1).trans rfl; have hfg2_1 := blk_frozen BK2p.out 1; have hg2_2 : w7.cell? ⟨g2, 2, none⟩ = some (.slice none 0 0) := (blk_cell BK2p.out 2).trans rfl; have hfg2_2 := blk_frozen BK2p.out 2)
  (have hg4_0 : w7.cell? ⟨g4, 0, none⟩ = some (.int .i64 2) := (blk_cell BK4p.out 0).trans rfl; have hfg4_0 := blk_frozen BK4p.out 0; have hg4_1 : w7.cell? ⟨g4, 1, none⟩ = some (.slice none 0 0) := (blk_cell BK4p.out 1).trans rfl; have hfg4_1 := blk_frozen BK4p.out 1; have hg4_2 : w7.cell? ⟨g4, 2, none⟩ = some (.slice none 0 0) := (blk_cell BK4p.out 2).trans rfl; have hfg4_2 := blk_frozen BK4p.out 2)
  have hC7 : Kd.C k40 w7 (some ⟨g7, 0, none⟩) 2 [⟨fX, 2⟩, ⟨fY, 1⟩] := (Kd.R_reads' HRp.out).2.2
  have n0 : w7.cell? ⟨g7, 3, none⟩ = some (.int .u64 2) := by
    obtain ⟨ad, A1, c1, A2, c2, e, -, -, -, d3, -⟩ := at_T40 hC7 0 (by decide) (by decide)
    injection e with e
    subst e
    exact d3
  have n1 : w7.cell? ⟨g7, 7, none⟩ = some (.int .u64 1) := by
    obtain ⟨ad, A1, c1, A2, c2, e, -, -, -, d3, -⟩ := at_T40 hC7 1 (by decide) (by decide)
    injection e with e
    subst e
    exact d3
  clear hC7
  go_wp2_with (first
    | (go_at_call 14; refine (fact_Compare.calls 20 1 (some ⟨g1, 0, none⟩) 1 [strA] none 0 [] 2 none 0 [] none 0 [] (-1) w7 (C_strs1 BK1p.out) (Nat.le_refl _) C_no (Nat.le_refl _) C_no (Nat.le_refl _) C_no (Nat.le_refl _) compareXY).mono ?_; rintro e w8 ⟨rfl, hb⟩; have BK1q := Aside0.mk (blk_below BK1p.out hb); have BK2q := Aside0.mk (blk_below BK2p.out hb); have BK4q := Aside0.mk (blk_below BK4p.out hb); have HRq := Aside0.mk (Kd.R_below HRp.out hb); have HBq := Aside0.mk (below_then HBp.out HBp.out.size hb); replace n0 := pw_cell_below hb n0; replace n1 := pw_cell_below hb n1; clear hg2_0 hfg2_0 hg2_1 hfg2_1 hg2_2 hfg2_2; clear hg4_0 hfg4_0 hg4_1 hfg4_1 hg4_2 hfg4_2; (have hg2_0 : w8.cell? ⟨g2, 0, none⟩ = some (.int .i64 1) := (blk_cell BK2q.out 0).trans rfl; have hfg2_0 := blk_frozen BK2q.out 0; have hg2_1 : w8.cell? ⟨g2, 1, none⟩ = some (.slice (some ⟨g1, 0, none⟩) 1 1) := (blk_cell BK2q.out 1).trans rfl; have hfg2_1 := blk_frozen BK2q.out 1; have hg2_2 : w8.cell? ⟨g2, 2, none⟩ = some (.slice none 0 0) := (blk_cell BK2q.out 2).trans rfl; have hfg2_2 := blk_frozen BK2q.out 2); (have hg4_0 : w8.cell? ⟨g4, 0, none⟩ = some (.int .i64 2) := (blk_cell BK4q.out 0).trans rfl; have hfg4_0 := blk_frozen BK4q.out 0; have hg4_1 : w8.cell? ⟨g4, 1, none⟩ = some (.slice none 0 0) := (blk_cell BK4q.out 1).trans rfl; have hfg4_1 := blk_frozen BK4q.out 1; have hg4_2 : w8.cell? ⟨g4, 2, none⟩ = some (.slice none 0 0) := (blk_cell BK4q.out 2).trans rfl; have hfg4_2 := blk_frozen BK4q.out 2); clear hb)
    | (go_at_call 17; refine (fact_Count.calls 10 (some ⟨g7, 0, none⟩) c7 [⟨fX, 2⟩, ⟨fY, 1⟩] 3 w8 (Kd.R_reads' HRq.out).2.2 (Kd.R_reads' HRq.out).2.1 countXY).mono ?_; rintro e w9 ⟨rfl, hb⟩; have BK1r := Aside0.mk (blk_below BK1q.out hb); have BK2r := Aside0.mk (blk_below BK2q.out hb); have BK4r := Aside0.mk (blk_below BK4q.out hb); have HRr := Aside0.mk (Kd.R_below HRq.out hb); have HBr := Aside0.mk (below_then HBq.out HBq.out.size hb); replace n0 := pw_cell_below hb n0; replace n1 := pw_cell_below hb n1; clear hg2_0 hfg2_0 hg2_1 hfg2_1 hg2_2 hfg2_2; clear hg4_0 hfg4_0 hg4_1 hfg4_1 hg4_2 hfg4_2; (have hg2_0 : w9.cell? ⟨g2, 0, none⟩ = some (.int .i64 1) := (blk_cell BK2r.out 0).trans rfl; have hfg2_0 := blk_frozen BK2r.out 0; have hg2_1 : w9.cell? ⟨g2, 1, none⟩ = some (.slice (some ⟨g1, 0, none⟩) 1 1) := (blk_cell BK2r.out 1).trans rfl; have hfg2_1 := blk_frozen BK2r.out 1; have hg2_2 : w9.cell? ⟨g2, 2, none⟩ = some (.slice none 0 0) := (blk_cell BK2r.out 2).trans rfl; have hfg2_2 := blk_frozen BK2r.out 2); (have hg4_0 : w9.cell? ⟨g4, 0, none⟩ = some (.int .i64 2) := (blk_cell BK4r.out 0).trans rfl; have hfg4_0 := blk_frozen BK4r.out 0; have hg4_1 : w9.cell? ⟨g4, 1, none⟩ = some (.slice none 0 0) := (blk_cell BK4r.out 1).trans rfl; have hfg4_1 := blk_frozen BK4r.out 1; have hg4_2 : w9.cell? ⟨g4, 2, none⟩ = some (.slice none 0 0) := (blk_cell BK4r.out 2).trans rfl; have hfg4_2 := blk_frozen BK4r.out 2); clear hb)
    | (go_at_call 12; (fail_if_success (have := HBs)); refine (fact_Check.calls 1 0 1 (some ⟨g1, 0, none⟩) 1 [strA] none 0 [] 0 w9 (C_strs1 BK1r.out) (Nat.le_refl _) C_no (Nat.le_refl _) checkX1).mono ?_; rintro e w10 ⟨rfl, hb⟩; have BK1s := Aside0.mk (blk_below BK1r.out hb); have BK2s := Aside0.mk (blk_below BK2r.out hb); have BK4s := Aside0.mk (blk_below BK4r.out hb); have HRs := Aside0.mk (Kd.R_below HRr.out hb); have HBs := Aside0.mk (below_then HBr.out HBr.out.size hb); replace n0 := pw_cell_below hb n0; replace n1 := pw_cell_below hb n1; clear hg2_0 hfg2_0 hg2_1 hfg2_1 hg2_2 hfg2_2; clear hg4_0 hfg4_0 hg4_1 hfg4_1 hg4_2 hfg4_2; (have hg2_0 : w10.cell? ⟨g2, 0, none⟩ = some (.int .i64 1) := (blk_cell BK2s.out 0).trans rfl; have hfg2_0 := blk_frozen BK2s.out 0; have hg2_1 : w10.cell? ⟨g2, 1, none⟩ = some (.slice (some ⟨g1, 0, none⟩) 1 1) := (blk_cell BK2s.out 1).trans rfl; have hfg2_1 := blk_frozen BK2s.out 1; have hg2_2 : w10.cell? ⟨g2, 2, none⟩ = some (.slice none 0 0) := (blk_cell BK2s.out 2).trans rfl; have hfg2_2 := blk_frozen BK2s.out 2); (have hg4_0 : w10.cell? ⟨g4, 0, none⟩ = some (.int .i64 2) := (blk_cell BK4s.out 0).trans rfl; have hfg4_0 := blk_frozen BK4s.out 0; have hg4_1 : w10.cell? ⟨g4, 1, none⟩ = some (.slice none 0 0) := (blk_cell BK4s.out 1).trans rfl; have hfg4_1 := blk_frozen BK4s.out 1; have hg4_2 : w10.cell? ⟨g4, 2, none⟩ = some (.slice none 0 0) := (blk_cell BK4s.out 2).trans rfl; have hfg4_2 := blk_frozen BK4s.out 2); clear hb)
    | (go_at_call 12; refine (fact_Check.calls 0 0 1 (some ⟨g1, 0, none⟩) 1 [strA] none 0 [] 40 w10 (C_strs1 BK1s.out) (Nat.le_refl _) C_no (Nat.le_refl _) checkX0).mono ?_; rintro e w11 ⟨rfl, hb⟩; have BK1t := Aside0.mk (blk_below BK1s.out hb); have BK2t := Aside0.mk (blk_below BK2s.out hb); have BK4t := Aside0.mk (blk_below BK4s.out hb); have HRt := Aside0.mk (Kd.R_below HRs.out hb); have HBt := Aside0.mk (below_then HBs.out HBs.out.size hb); replace n0 := pw_cell_below hb n0; replace n1 := pw_cell_below hb n1; clear hg2_0 hfg2_0 hg2_1 hfg2_1 hg2_2 hfg2_2; clear hg4_0 hfg4_0 hg4_1 hfg4_1 hg4_2 hfg4_2; (have hg2_0 : w11.cell? ⟨g2, 0, none⟩ = some (.int .i64 1) := (blk_cell BK2t.out 0).trans rfl; have hfg2_0 := blk_frozen BK2t.out 0; have hg2_1 : w11.cell? ⟨g2, 1, none⟩ = some (.slice (some ⟨g1, 0, none⟩) 1 1) := (blk_cell BK2t.out 1).trans rfl; have hfg2_1 := blk_frozen BK2t.out 1; have hg2_2 : w11.cell? ⟨g2, 2, none⟩ = some (.slice none 0 0) := (blk_cell BK2t.out 2).trans rfl; have hfg2_2 := blk_frozen BK2t.out 2); (have hg4_0 : w11.cell? ⟨g4, 0, none⟩ = some (.int .i64 2) := (blk_cell BK4t.out 0).trans rfl; have hfg4_0 := blk_frozen BK4t.out 0; have hg4_1 : w11.cell? ⟨g4, 1, none⟩ = some (.slice none 0 0) := (blk_cell BK4t.out 1).trans rfl; have hfg4_1 := blk_frozen BK4t.out 1; have hg4_2 : w11.cell? ⟨g4, 2, none⟩ = some (.slice none 0 0) := (blk_cell BK4t.out 2).trans rfl; have hfg4_2 := blk_frozen BK4t.out 2); clear hb)
    | fail)
  go_ret
  exact ⟨rfl, HBt.out⟩
end Go.Proofs.Ytfeeahjaeapkoaa.P
end

section
namespace Go.Proofs.Ytfeeahjaeapkoaa.P
set_option linter.unusedVariables false
set_option linter.unusedSimpArgs false
open Go.RowKit Go.Proofs.YtfeeahjaeapkoaaW.PrintWords Go.Proofs.YtfeeahjaeapkoaaW.PrintLast Go.Proofs.YtfeeahjaeapkoaaW.PrintMore Go.Proofs.Ytfeeahjaeapkoaa.Lib Go.Proofs.Ytfeeahjaeapkoaa.Ext
def small40 (x : S40) : Bool := decide (x.f0.f1.length ≤ 8796093022208) && decide (x.f0.f2.length ≤ 17592186044416)
theorem small40_of {l : List S40} (h : l.all small40 = true) : ∀ x ∈ l, Small (m40 x) := fun x hx => by
  have := List.all_eq_true.1 h x hx
  unfold small40 at this
  simp only [Bool.and_eq_true, decide_eq_true_eq] at this
  exact this
def bag40 (l : List S40) (tk : F → Bool) : List S40 := (bagOf ((l.map m40).filter fun x => tk x.1)).map s40
theorem bag40_calls (n c : Nat) (A : Option Addr) (l : List S40) (f : FuncId) (cap : Array Value) (tk : F → Bool) (w : World) (hC : Kd.C k40 w A n l) (hn : n ≤ sortK) (hs : l.all small40 = true)
    (hf : ∃ fn, Try.prog.funcs[f]? = some fn ∧ (fn.name == "runtime.NumGoroutine") = false ∧ fn.body.isSome = true)
    (htk : ∀ w', Below w.heap.size w w' → ∀ q x, Fl w' q x → Calls Try.prog f (#[] ++ #[qV q] ++ cap) w' fun e w'' => e = .returned (.bool (tk x)) ∧ Below w'.heap.size w' w'') :
    Calls Try.prog 33 #[.slice A n c, .func (.func f) #[] cap] w fun e w' => ∃ v, e = .returned v ∧ Kd.R k40 40 w' w.heap.size (fun _ => True) v (bag40 l tk) ∧ Below w.heap.size w w' := by
  obtain ⟨qs, h1, h2⟩ := flat40 hC (small40_of hs)
  exact bag_known sortK sortK_le sort_ok n c A qs (l.map m40) f cap tk w h1 hn h2 hf htk
def fact_bag_at_fact_all.f (l0 : List (S40)) : Option (List (S40)) := if l0.length ≤ sortK ∧ l0.all small40 = true then some (bag40 l0 (fun _ => true)) else none
theorem fact_bag_at_fact_all.calls (A0 : Option Addr) (c0 : Nat) (l0 : List (S40)) (r : List (S40)) (w : World) (hr0 : Kd.C k40 w A0 l0.length l0) (hc0 : l0.length ≤ c0) (h : fact_bag_at_fact_all.f l0 = some r) :
    Calls Try.prog 33 #[.slice A0 l0.length c0, .func (.func 34) #[] #[]] w fun e w' => ∃ v0_ : Value, e = .returned v0_ ∧ Kd.R k40 40 w' w.heap.size (fun _ => True) v0_ r ∧ Below w.heap.size w w' := by
  unfold fact_bag_at_fact_all.f at h
  split at h
  · rename_i hh
    injection h with h
    subst h
    exact bag40_calls _ c0 A0 l0 _ #[] (fun _ => true) w hr0 hh.1 hh.2 ⟨_, Try.func34, rfl, rfl⟩ (fun w' _ q x hq => all_calls _ _ _ rfl rfl rfl w')
  · cases h
end Go.Proofs.Ytfeeahjaeapkoaa.P
end

section
namespace Go.Proofs.Ytfeeahjaeapkoaa.P
set_option linter.unusedVariables false
set_option linter.unusedSimpArgs false
open Go.RowKit Go.Proofs.YtfeeahjaeapkoaaW.PrintWords Go.Proofs.YtfeeahjaeapkoaaW.PrintLast Go.Proofs.YtfeeahjaeapkoaaW.PrintMore Go.Proofs.Ytfeeahjaeapkoaa.Lib Go.Proofs.Ytfeeahjaeapkoaa.Ext
section
variable {P : Program} {ops : Array Oper} {o : Oper} {a : Act} {Q : Exit → Act → World → Prop}
theorem row_event2 {rest : List Oper} {W : World} (hgd : o.guard = none) {N : Tmp} (_hd : o.dst = some N) {cs : Array Value} {t : TypeId} {n c : Nat}
    (hrun : (execOp a.eval o).run P W = .ok (.value (.slice (some ⟨W.heap.size, 0, none⟩) n c)) (W.alloc (.cells cs t (0, 0))))
    (h : ∀ g, g = W.heap.size → ∀ w1, w1.heap[g]? = some (.cells cs t (0, 0)) → Below W.heap.size W w1 → wpList P ops Q rest (a.put o.dst (.slice (some ⟨g, 0, none⟩) n c)) w1) : wpList P ops Q (o :: rest) a W :=
  Kd.event_run hgd hrun (h _ rfl _ (blk_new W _) (below_alloc (Below.refl _ _) _))
end
theorem Two.append {R : Q → M → Prop} : ∀ {a : List Q} {b : List M} {c : List Q} {d : List M}, Two R a b → Two R c d → Two R (a ++ c) (b ++ d)
  | [], [], _, _, _, h => h
  | q :: a, x :: b, c, d, h, h2 => ⟨h.1, Two.append h.2 h2⟩
set_option maxRecDepth 100000 in
set_option maxHeartbeats 400000 in
theorem grow_q (n : Nat) (w : World) (hn : n ≤ 2199023255552) : Calls Try.prog 50 #[.slice none 0 0, .int .i64 n] w fun e w' => ∃ v0_ : Value, e = .returned v0_ ∧ kq.R 40 w' w.heap.size (fun _ => True) v0_ [] ∧ Below w.heap.size w w' := by
  have HB := Aside0.mk (Below.refl w.heap.size w)
  by_cases h0 : n = 0
  · subst h0
    go_enter Try.func50, Try.ntmps50
    go_wp2_with fail
    go_ret
    exact ⟨_, rfl, Kd.R_nil _ _ _ _ _, HB.out⟩
  · have h1 : 0 < n := by omega
    have h2 : (0 : Int) < (n : Int) := by omega
    clear h0
    go_enter Try.func50, Try.ntmps50
    go_wp2_with (first
      | ((with_reducible refine gate_builtin (b := .append) (xs := #[.tmp 20, .tmp 21]) rfl ?_); at_builtin; refine Kd.R_append_zeros kq (w0 := w) w.heap.size rfl (.tmp 20) (.tmp 21) 36 3 40 (.agg #[.int .i64 0, .slice none 0 0, .slice none 0 0, .int .u64 0]) 64 rfl Try.underlying36 Try.underlying3 infoMany rfl (show 0 < 4 from by decide) (by decide) (.slice none 0 0) [] zQ (kx := .i64) (n : Int) (fun _ => True) rfl rfl (kq_M.2 rfl) (fun _ _ => trivial) (Kd.R_nil _ _ _ _ _) (by omega) HB.out (Nat.le_refl _) (by simp; omega) ?_; intro v1 w1 ho1 hb1 hg1 ha1; rw [List.nil_append, Int.toNat_natCast] at ho1; obtain ⟨A1, c1, rfl, hc1, -⟩ := Kd.R_reads ho1; have hc0 : 0 ≤ c1 := Nat.zero_le _; have HO1 := Aside0.mk ho1; have HB1 := Aside0.mk hb1; clear ho1 hb1 hg1 ha1 hc1)
      | fail)
    go_ret
    have h3 := Kd.R_take (m := 0) HO1.out (Nat.zero_le _)
    exact ⟨_, rfl, h3, HB1.out⟩
inductive RelC1 (w : World) (n t : Nat) (v1 v2 : Value) (w' : World) : Prop
  | zero (e1 : v1 = .int .i64 0) (e2 : v2 = .int .i64 0) (hw : w' = w)
  | one (e1 : v1 = .int .i64 n) (e2 : v2 = .int .i64 1) (hw : w' = w)
  | two (e1 : v1 = .int .i64 t) (e2 : v2 = .int .i64 2) (hw : w' = w)
inductive RelC2 (w w0 : World) (xs ys : List Q) (v1 v2 : Value) (w' : World) : Prop
  | zero (e2 : v2 = .int .i64 0) (hr : kq.R 40 w' w.heap.size (fun _ => True) v1 []) (hb : Below w.heap.size w w')
  | one (e2 : v2 = .int .i64 1) (hr : kq.R 40 w' w.heap.size (fun _ => True) v1 xs) (hb : Below w.heap.size w w')
  | two (e2 : v2 = .int .i64 2) (hr : kq.R 40 w' w.heap.size (fun _ => True) v1 (xs ++ ys)) (hb : Below w.heap.size w w')
set_option maxRecDepth 100000 in
set_option maxHeartbeats 1600000 in
theorem concat_q (gp n c m d : Nat) (A B : Option Addr) (xs ys : List Q) (w : World) (hp : w.heap[gp]? = some (.cells #[.slice A n c, .slice B m d] 36 (0, 0))) (hx : kq.C w A n xs) (hy : kq.C w B m ys) (hnm : n + m ≤ 1099511627776) :
    Calls Try.prog 37 #[.slice (some ⟨gp, 0, none⟩) 2 2] w fun e w' => ∃ v, e = .returned v ∧ kq.R 40 w' w.heap.size (fun _ => True) v (xs ++ ys) ∧ Below w.heap.size w w' := by
  have HP := Aside0.mk hp
  have HX := Aside0.mk hx
  have HY := Aside0.mk hy
  have HXl := Aside0.mk (show xs.length = n from hx.1)
  have HYl := Aside0.mk (show ys.length = m from hy.1)
  obtain ⟨t, ht⟩ : ∃ t, t = n + m := ⟨_, rfl⟩
  have HT := Aside0.mk (show (n : Int) + (m : Int) = (t : Int) ∧ t ≤ 2199023255552 by omega)
  clear hp hx hy ht
  go_enter Try.func37, Try.ntmps37
  (have hgp_0 : w.cell? ⟨gp, 0, none⟩ = some (.slice A n c) := (blk_cell HP.out 0).trans rfl; have hfgp_0 := blk_frozen HP.out 0; have hgp_1 : w.cell? ⟨gp, 1, none⟩ = some (.slice B m d) := (blk_cell HP.out 1).trans rfl; have hfgp_1 := blk_frozen HP.out 1)
  go_wp2_with fail
  go_loopw [3, 11] (fun v3 v11 w' => RelC1 w n t v3 v11 w') (fun _ v11 _ => 2 - (intOf v11).toNat)
  case atStart => exact .zero rfl rfl rfl
  case round =>
    rcases hrel with ⟨rfl, rfl, hw⟩ | ⟨rfl, rfl, hw⟩ | ⟨rfl, rfl, hw⟩
    · subst hw
      have hn0 : (0 : Int) ≤ (n : Int) := by omega
      go_wp2_with fail
      go_roundw
      case rel => exact .one (by go_num) rfl rfl
      case measure => simp [intOf]
    · subst hw
      have hn0 : (n : Int) + (m : Int) = (t : Int) := HT.out.1
      have hn1 : (0 : Int) ≤ (t : Int) := by omega
      go_wp2_with fail
      go_roundw
      case rel => exact .two (by first | rfl | (rw [hn0])) rfl rfl
      case measure => simp [intOf]
    · subst hw
      have HG := Aside0.mk (fun wx => grow_q t wx HT.out.2)
      go_wp2_with fail
      refine (HG.out _).mono ?_
      rintro e w2 ⟨v2, rfl, hr2, hb2⟩
      have HR2 := Aside0.mk hr2
      have HB2 := Aside0.mk hb2
      clear hr2 hb2 HG
      go_wp2_with fail
      have BKp := Aside0.mk (blk_below HP.out HB2.out)
      go_loopw [6, 27] (fun v6 v27 w' => RelC2 wr w2 xs ys v6 v27 w') (fun _ v27 _ => 2 - (intOf v27).toNat)
      case atStart => exact .zero rfl HR2.out HB2.out
      case round =>
        clear HR2 HB2 BKp hgp_0 hfgp_0 hgp_1 hfgp_1
        rcases hrel with ⟨rfl, hr, hb⟩ | ⟨rfl, hr, hb⟩ | ⟨rfl, hr, hb⟩
        · have HRk := Aside0.mk hr
          have HBk := Aside0.mk hb
          have HXk := Aside0.mk (Kd.C_below HX.out hb)
          have BKp := Aside0.mk (blk_below HP.out hb)
          clear hr hb
          (have hgp_0 : wr.cell? ⟨gp, 0, none⟩ = some (.slice A n c) := (blk_cell BKp.out 0).trans rfl; have hfgp_0 := blk_frozen BKp.out 0; have hgp_1 : wr.cell? ⟨gp, 1, none⟩ = some (.slice B m d) := (blk_cell BKp.out 1).trans rfl; have hfgp_1 := blk_frozen BKp.out 1)
          go_wp2_with (first | ((with_reducible refine gate_builtin (b := .append) (xs := #[.tmp 31, .tmp 32]) rfl ?_); at_builtin; refine Kd.R_append_rows kq (Rr := kq.K wr) _ rfl (.tmp 31) (.tmp 32) 36 40 (.agg #[.int .i64 0, .slice none 0 0, .slice none 0 0, .int .u64 0]) 64 rfl Try.underlying36 infoMany rfl (show 0 < 4 from by decide) (by decide) u6 [] xs A n c (fun _ => True) (fun _ => False) rfl rfl HRk.out HXk.out (fun x cs h => kq_M.2 (kq_K.1 h)) (fun _ h => h.elim) (fun _ _ => trivial) HBk.out HBk.out.size (by have := HXl.out; have := HYl.out; simp; omega) ?_; intro v4 w4 ho4 hb4 hg4 ha4; have HO4 := Aside0.mk ho4; have HB4 := Aside0.mk hb4; clear ho4 hb4 hg4 ha4) | fail)
          go_roundw
          case rel => exact .one rfl HO4.out HB4.out
          case measure => simp [intOf]
        · have HRk := Aside0.mk hr
          have HBk := Aside0.mk hb
          have HYk := Aside0.mk (Kd.C_below HY.out hb)
          have BKp := Aside0.mk (blk_below HP.out hb)
          clear hr hb
          (have hgp_0 : wr.cell? ⟨gp, 0, none⟩ = some (.slice A n c) := (blk_cell BKp.out 0).trans rfl; have hfgp_0 := blk_frozen BKp.out 0; have hgp_1 : wr.cell? ⟨gp, 1, none⟩ = some (.slice B m d) := (blk_cell BKp.out 1).trans rfl; have hfgp_1 := blk_frozen BKp.out 1)
          go_wp2_with (first | ((with_reducible refine gate_builtin (b := .append) (xs := #[.tmp 31, .tmp 32]) rfl ?_); at_builtin; refine Kd.R_append_rows kq (Rr := kq.K wr) _ rfl (.tmp 31) (.tmp 32) 36 40 (.agg #[.int .i64 0, .slice none 0 0, .slice none 0 0, .int .u64 0]) 64 rfl Try.underlying36 infoMany rfl (show 0 < 4 from by decide) (by decide) u6 xs ys B m d (fun _ => True) (fun _ => False) rfl rfl HRk.out HYk.out (fun x cs h => kq_M.2 (kq_K.1 h)) (fun _ h => h.elim) (fun _ _ => trivial) HBk.out HBk.out.size (by have := HXl.out; have := HYl.out; simp; omega) ?_; intro v4 w4 ho4 hb4 hg4 ha4; have HO4 := Aside0.mk ho4; have HB4 := Aside0.mk hb4; clear ho4 hb4 hg4 ha4) | fail)
          go_roundw
          case rel => exact .two rfl HO4.out HB4.out
          case measure => simp [intOf]
        · have HRk := Aside0.mk hr
          have HBk := Aside0.mk hb
          clear hr hb
          go_wp2_with fail
          go_ret
          exact ⟨_, rfl, HRk.out, HBk.out⟩
def fact_Join.f (l0 : List (S40)) (l1 : List (S40)) : Option (List (S40)) := if l0.length + l1.length ≤ sortK ∧ l0.all small40 = true ∧ l1.all small40 = true then some (bag40 (l0 ++ l1) (fun _ => true)) else none
set_option maxRecDepth 100000 in
set_option maxHeartbeats 400000 in
theorem fact_Join.calls (A0 : Option Addr) (c0 : Nat) (l0 : List (S40)) (A1 : Option Addr) (c1 : Nat) (l1 : List (S40)) (r : List (S40)) (w : World) (hr0 : Kd.C k40 w A0 l0.length l0) (hc0 : l0.length ≤ c0) (hr1 : Kd.C k40 w A1 l1.length l1) (hc1 : l1.length ≤ c1) (h : fact_Join.f l0 l1 = some r) :
    Calls Try.prog 22 #[.slice A0 l0.length c0, .slice A1 l1.length c1] w fun e w' => ∃ v0_ : Value, e = .returned v0_ ∧ Kd.R k40 40 w' w.heap.size (fun _ => True) v0_ r ∧ Below w.heap.size w w' := by
  unfold fact_Join.f at h
  split at h
  · rename_i hh
    injection h with h
    subst h
    obtain ⟨q0, f0, t0⟩ := flat40 hr0 (small40_of hh.2.1)
    obtain ⟨q1, f1, t1⟩ := flat40 hr1 (small40_of hh.2.2)
    have HH := Aside0.mk hh.1
    have HF0 := Aside0.mk f0
    have HF1 := Aside0.mk f1
    obtain ⟨qq, hqq⟩ : ∃ qq, qq = q0 ++ q1 := ⟨_, rfl⟩
    have HT := Aside0.mk (show Two (fun q x => Fl w q x.1 ∧ q.2.2.2 = x.2) qq ((l0 ++ l1).map m40) by rw [hqq, List.map_append]; exact Two.append t0 t1)
    have HLl := Aside0.mk (show qq.length = l0.length + l1.length by rw [hqq, List.length_append, f0.1, f1.1])
    have HQ := Aside0.mk hqq.symm
    clear hqq
    have HBk := Aside0.mk (fun (w2 : World) (c2 : Nat) (A2 : Option Addr) (hC : kq.C w2 A2 qq.length qq) (hx : Below w.heap.size w w2) => show Calls Try.prog 33 #[.slice A2 qq.length c2, .func (.func 34) #[] #[]] w2 (fun e w' => ∃ v, e = .returned v ∧ Kd.R k40 40 w' w2.heap.size (fun _ => True) v (bag40 (l0 ++ l1) (fun _ => true)) ∧ Below w2.heap.size w2 w') from
      bag_known sortK sortK_le sort_ok qq.length c2 A2 qq ((l0 ++ l1).map m40) 34 #[] (fun _ => true) w2 hC (by rw [HLl.out]; exact HH.out) (Two.mono (fun q x h => ⟨h.1.below hx, h.2⟩) HT.out) ⟨_, Try.func34, rfl, rfl⟩ (fun w' _ q x hq => all_calls _ _ _ rfl rfl rfl w'))
    clear hh hr0 hc0 hr1 hc1 f0 f1 t0 t1
    generalize hl0 : l0.length = n at *
    generalize hl1 : l1.length = m at *
    clear hl0 hl1
    go_enter Try.func22, Try.ntmps22
    go_wp2_with (first
      | ((with_reducible refine gate_dst (N := 7) rfl ?_); refine row_event2 ?hg (N := 7) ?hd (cs := #[.slice A0 n c0, .slice A1 m c1]) (t := 36) (n := 2) (c := 2) ?hr ?_; (case hd => rfl); (case hg => rfl); (case hr => first | (go_simp; done) | (go_simp; rfl)); intro g1 hg w1 hbox hb; have BK1 := Aside0.mk hbox; have HX1 := Aside0.mk hb; clear hg hbox hb)
      | (go_at_call 37; refine (concat_q g1 n c0 m c1 A0 A1 q0 q1 w1 BK1.out (Kd.C_below HF0.out HX1.out) (Kd.C_below HF1.out HX1.out) (Nat.le_trans HH.out sortK_le)).mono ?_; rintro e w2 ⟨v2, rfl, hr2, hb2⟩; rw [HQ.out] at hr2; obtain ⟨A2, c2, rfl, hc2, hC2⟩ := Kd.R_reads hr2; have HC2 := Aside0.mk hC2; have HX2 := Aside0.mk (below_then HX1.out HX1.out.size hb2); clear hr2 hb2 hC2 hc2)
      | (go_at_call 33; refine (HBk.out w2 c2 A2 HC2.out HX2.out).mono ?_; rintro e w3 ⟨v3, rfl, hr3, hb3⟩; have HR3 := Aside0.mk hr3; have HB3 := Aside0.mk (below_then HX2.out HX2.out.size hb3); clear hr3 hb3)
      | fail)
    go_ret
    refine ⟨v3, rfl, ?_, HB3.out⟩
    exact Kd.R_lower HR3.out HX2.out.size
  · cases h
end Go.Proofs.Ytfeeahjaeapkoaa.P
end

section
namespace Go.Proofs.Ytfeeahjaeapkoaa.P
open Go.RowKit Go.Proofs.YtfeeahjaeapkoaaW.PrintWords Go.Proofs.YtfeeahjaeapkoaaW.PrintLast Go.Proofs.YtfeeahjaeapkoaaW.PrintMore
attribute [local go_sem] max2_int min2_int max_two min_two max_three min_three max_four min_four   -- for this text's walks alone
set_option linter.unusedVariables false
set_option linter.unusedSimpArgs false
open Go.Proofs.Ytfeeahjaeapkoaa.Ext (q1_ q2_ q3_ bk_ bw_ sz_ ne_ bx_)
attribute [local go_sem high] Go.Proofs.Ytfeeahjaeapkoaa.Ext.gtr_str Go.Proofs.Ytfeeahjaeapkoaa.Ext.leq_str Go.Proofs.Ytfeeahjaeapkoaa.Ext.geq_str
def fact_Same_1.f (k : Nat) (a0_0 : Int) (l0_1 : List ByteArray) (l0_2 : List Int) (a0_3 : Int) (a1_0 : Int) (l1_1 : List ByteArray) (l1_2 : List Int) (a1_3 : Int) : Option (Bool) := if a0_3 = a1_3 then ((fact_Compare.f k a0_0 l0_1 l0_2 a1_0 l1_1 l1_2).bind fun t366 => (some (t366 == 0))) else (some false)
set_option maxHeartbeats 8000000 in
set_option maxRecDepth 100000 in
theorem fact_Same_1.calls (k : Nat) (a0_0 : Int) (A0_1 : Option Addr) (c0_1 : Nat) (l0_1 : List ByteArray) (A0_2 : Option Addr) (c0_2 : Nat) (l0_2 : List Int) (a0_3 : Int) (a1_0 : Int) (A1_1 : Option Addr) (c1_1 : Nat) (l1_1 : List ByteArray) (A1_2 : Option Addr) (c1_2 : Nat) (l1_2 : List Int) (a1_3 : Int) (r : Bool) (w : World) (hr0_1 : Kd.C Kd.string w A0_1 l0_1.length l0_1) (hc0_1 : l0_1.length ≤ c0_1) (hr0_2 : Kd.C (Kd.int .i64) w A0_2 l0_2.length l0_2) (hc0_2 : l0_2.length ≤ c0_2) (hr1_1 : Kd.C Kd.string w A1_1 l1_1.length l1_1) (hc1_1 : l1_1.length ≤ c1_1) (hr1_2 : Kd.C (Kd.int .i64) w A1_2 l1_2.length l1_2) (hc1_2 : l1_2.length ≤ c1_2) (h : fact_Same_1.f k a0_0 l0_1 l0_2 a0_3 a1_0 l1_1 l1_2 a1_3 = some r) :
  Calls Try.prog 40 #[.agg #[.int .i64 a0_0, .slice A0_1 l0_1.length c0_1, .slice A0_2 l0_2.length c0_2, .int .u64 a0_3], .agg #[.int .i64 a1_0, .slice A1_1 l1_1.length c1_1, .slice A1_2 l1_2.length c1_2, .int .u64 a1_3]] w fun e w' => e = .returned (.bool r) ∧ Below w.heap.size w w' := by
 have hu40 := Try.underlying40
 have hu27 := Try.underlying27
 have HR0_1 := Aside0.mk hr0_1
 have HC0_1 := Aside0.mk hc0_1
 clear hr0_1 hc0_1
 have HR0_2 := Aside0.mk hr0_2
 have HC0_2 := Aside0.mk hc0_2
 clear hr0_2 hc0_2
 have HR1_1 := Aside0.mk hr1_1
 have HC1_1 := Aside0.mk hc1_1
 clear hr1_1 hc1_1
 have HR1_2 := Aside0.mk hr1_2
 have HC1_2 := Aside0.mk hc1_2
 clear hr1_2 hc1_2
 have HB := Aside0.mk (Below.refl w.heap.size w)
 have H : (if a0_3 = a1_3 then ((fact_Compare.f k a0_0 l0_1 l0_2 a1_0 l1_1 l1_2).bind fun t366 => (some (t366 == 0))) else (some false)) = some r := h
 clear h
 by_cases c3 : a0_3 = a1_3
 ·rw [if_pos c3] at H
  have c3b0 : (a0_3 == a1_3) = true := beq_iff_eq.mpr c3
  have c3b1 : (a0_3 != a1_3) = false := bne_eq_false_iff_eq.mpr c3
  clear c3
  replace H := Option.bind_eq_some_iff.mp H
  obtain ⟨t366, A40, H⟩ := H
  replace H : (some (t366 == 0)) = some r := H
  have A4 := Aside0.mk A40
  clear A40
  obtain rfl := Option.some.inj H
  go_enter Try.func40, Try.ntmps40
  go_wp2_with (first | ((with_reducible refine gate_dst (N := 2) rfl ?_); refine bx_ (N := 2) (cs := #[.int .i64 a0_0, .slice A0_1 l0_1.length c0_1, .slice A0_2 l0_2.length c0_2, .int .u64 a0_3]) (t := 40) ?_; intro gb364 hg w5 hbox hb; have n0_ := Aside0.mk (below_step (bw_ HB.out) hb); have n1_ := Aside0.mk (hbox); have n2_ := Aside0.mk (sz_ hg (bw_ HB.out)); have n3_ := n2_; clear HB; have HB := n0_; have BK364 := n1_; have GW364 := n2_; have GE364 := n3_; clear n0_ n1_ n2_ n3_; clear hb hbox hg) | ((with_reducible refine gate_dst (N := 3) rfl ?_); refine bx_ (N := 3) (cs := #[.int .i64 a1_0, .slice A1_1 l1_1.length c1_1, .slice A1_2 l1_2.length c1_2, .int .u64 a1_3]) (t := 40) ?_; intro gb365 hg w6 hbox hb; have n0_ := Aside0.mk (blk_below (bk_ BK364.out) hb); have n1_ := Aside0.mk (below_step (bw_ HB.out) hb); have n2_ := Aside0.mk (hbox); have n3_ := Aside0.mk (sz_ hg (bw_ HB.out)); have n4_ := n3_; have n5_ := Aside0.mk (ne_ hg (blk_lt (bk_ BK364.out))); have n6_ := Aside0.mk n5_.out.symm; clear BK364 HB; have BK364 := n0_; have HB := n1_; have BK365 := n2_; have GW365 := n3_; have GE365 := n4_; have NB364_365 := n5_; have NB365_364 := n6_; clear n0_ n1_ n2_ n3_ n4_ n5_ n6_; clear hb hbox hg; have hnb7 := NB364_365.out; have hnc7 := NB365_364.out; have hcz8_0 : w6.cell? ⟨gb364, 0, none⟩ = some (.int .i64 a0_0) := (blk_cell BK364.out 0).trans rfl; have hcz8_1 : w6.cell? ⟨gb364, 1, none⟩ = some (.slice A0_1 l0_1.length c0_1) := (blk_cell BK364.out 1).trans rfl; have hcz8_2 : w6.cell? ⟨gb364, 2, none⟩ = some (.slice A0_2 l0_2.length c0_2) := (blk_cell BK364.out 2).trans rfl; have hcz8_3 : w6.cell? ⟨gb364, 3, none⟩ = some (.int .u64 a0_3) := (blk_cell BK364.out 3).trans rfl; have hfz8_0 := blk_frozen BK364.out 0; have hfz8_1 := blk_frozen BK364.out 1; have hfz8_2 := blk_frozen BK364.out 2; have hfz8_3 := blk_frozen BK364.out 3; have hcz9_0 : w6.cell? ⟨gb365, 0, none⟩ = some (.int .i64 a1_0) := (blk_cell BK365.out 0).trans rfl; have hcz9_1 : w6.cell? ⟨gb365, 1, none⟩ = some (.slice A1_1 l1_1.length c1_1) := (blk_cell BK365.out 1).trans rfl; have hcz9_2 : w6.cell? ⟨gb365, 2, none⟩ = some (.slice A1_2 l1_2.length c1_2) := (blk_cell BK365.out 2).trans rfl; have hcz9_3 : w6.cell? ⟨gb365, 3, none⟩ = some (.int .u64 a1_3) := (blk_cell BK365.out 3).trans rfl; have hfz9_0 := blk_frozen BK365.out 0; have hfz9_1 := blk_frozen BK365.out 1; have hfz9_2 := blk_frozen BK365.out 2; have hfz9_3 := blk_frozen BK365.out 3) | (go_at_call 14; (with_reducible refine (fact_Compare.calls k a0_0 _ _ l0_1 _ _ l0_2 a1_0 _ _ l1_1 _ _ l1_2 t366 _ ?side1 ?side2 ?side3 ?side4 ?side5 ?side6 ?side7 ?side8 A4.out).mono ?_); (case side1 => repeat (first | exact (Kd.C_below HR0_1.out HB.out) | (with_reducible refine Kd.C_alloc ?_ _) | (with_reducible refine Kd.C_drewN ?_ _) | (with_reducible refine Kd.C_drew ?_))); (case side2 => exact HC0_1.out); (case side3 => repeat (first | exact (Kd.C_below HR0_2.out HB.out) | (with_reducible refine Kd.C_alloc ?_ _) | (with_reducible refine Kd.C_drewN ?_ _) | (with_reducible refine Kd.C_drew ?_))); (case side4 => exact HC0_2.out); (case side5 => repeat (first | exact (Kd.C_below HR1_1.out HB.out) | (with_reducible refine Kd.C_alloc ?_ _) | (with_reducible refine Kd.C_drewN ?_ _) | (with_reducible refine Kd.C_drew ?_))); (case side6 => exact HC1_1.out); (case side7 => repeat (first | exact (Kd.C_below HR1_2.out HB.out) | (with_reducible refine Kd.C_alloc ?_ _) | (with_reducible refine Kd.C_drewN ?_ _) | (with_reducible refine Kd.C_drew ?_))); (case side8 => exact HC1_2.out); rintro e w10 ⟨rfl, hb⟩; have n0_ := Aside0.mk (blk_below (bk_ BK364.out) hb); have n1_ := Aside0.mk (blk_below (bk_ BK365.out) hb); have n2_ := Aside0.mk (below_step (bw_ HB.out) hb); clear BK364 BK365 HB; have BK364 := n0_; have BK365 := n1_; have HB := n2_; clear n0_ n1_ n2_; (try clear hb); (try clear hb2); (try clear hk); (try clear hi)))
  go_ret
  exact ⟨by first | rfl | (simp [errW_none, errW_some] <;> rfl) | (simp [*, errW_none, errW_some] <;> rfl), by repeat (first | (with_reducible first | exact HB.out | apply below_alloc | apply pw_below_drewN | apply below_drew1 | refine below_set ?_ GE364.out | refine below_set ?_ GE365.out) | exact HB.out)⟩
 ·rw [if_neg c3] at H
  have c3b0 : (a0_3 == a1_3) = false := beq_eq_false_iff_ne.mpr c3
  have c3b1 : (a0_3 != a1_3) = true := bne_iff_ne.mpr c3
  obtain rfl := Option.some.inj H
  go_enter Try.func40, Try.ntmps40
  go_wp2_with (first | ((with_reducible refine gate_dst (N := 2) rfl ?_); refine bx_ (N := 2) (cs := #[.int .i64 a0_0, .slice A0_1 l0_1.length c0_1, .slice A0_2 l0_2.length c0_2, .int .u64 a0_3]) (t := 40) ?_; intro gb364 hg w11 hbox hb; have n0_ := Aside0.mk (below_step (bw_ HB.out) hb); have n1_ := Aside0.mk (hbox); have n2_ := Aside0.mk (sz_ hg (bw_ HB.out)); have n3_ := n2_; clear HB; have HB := n0_; have BK364 := n1_; have GW364 := n2_; have GE364 := n3_; clear n0_ n1_ n2_ n3_; clear hb hbox hg) | ((with_reducible refine gate_dst (N := 3) rfl ?_); refine bx_ (N := 3) (cs := #[.int .i64 a1_0, .slice A1_1 l1_1.length c1_1, .slice A1_2 l1_2.length c1_2, .int .u64 a1_3]) (t := 40) ?_; intro gb365 hg w12 hbox hb; have n0_ := Aside0.mk (blk_below (bk_ BK364.out) hb); have n1_ := Aside0.mk (below_step (bw_ HB.out) hb); have n2_ := Aside0.mk (hbox); have n3_ := Aside0.mk (sz_ hg (bw_ HB.out)); have n4_ := n3_; have n5_ := Aside0.mk (ne_ hg (blk_lt (bk_ BK364.out))); have n6_ := Aside0.mk n5_.out.symm; clear BK364 HB; have BK364 := n0_; have HB := n1_; have BK365 := n2_; have GW365 := n3_; have GE365 := n4_; have NB364_365 := n5_; have NB365_364 := n6_; clear n0_ n1_ n2_ n3_ n4_ n5_ n6_; clear hb hbox hg; have hnb13 := NB364_365.out; have hnc13 := NB365_364.out; have hcz14_0 : w12.cell? ⟨gb364, 0, none⟩ = some (.int .i64 a0_0) := (blk_cell BK364.out 0).trans rfl; have hcz14_1 : w12.cell? ⟨gb364, 1, none⟩ = some (.slice A0_1 l0_1.length c0_1) := (blk_cell BK364.out 1).trans rfl; have hcz14_2 : w12.cell? ⟨gb364, 2, none⟩ = some (.slice A0_2 l0_2.length c0_2) := (blk_cell BK364.out 2).trans rfl; have hcz14_3 : w12.cell? ⟨gb364, 3, none⟩ = some (.int .u64 a0_3) := (blk_cell BK364.out 3).trans rfl; have hfz14_0 := blk_frozen BK364.out 0; have hfz14_1 := blk_frozen BK364.out 1; have hfz14_2 := blk_frozen BK364.out 2; have hfz14_3 := blk_frozen BK364.out 3; have hcz15_0 : w12.cell? ⟨gb365, 0, none⟩ = some (.int .i64 a1_0) := (blk_cell BK365.out 0).trans rfl; have hcz15_1 : w12.cell? ⟨gb365, 1, none⟩ = some (.slice A1_1 l1_1.length c1_1) := (blk_cell BK365.out 1).trans rfl; have hcz15_2 : w12.cell? ⟨gb365, 2, none⟩ = some (.slice A1_2 l1_2.length c1_2) := (blk_cell BK365.out 2).trans rfl; have hcz15_3 : w12.cell? ⟨gb365, 3, none⟩ = some (.int .u64 a1_3) := (blk_cell BK365.out 3).trans rfl; have hfz15_0 := blk_frozen BK365.out 0; have hfz15_1 := blk_frozen BK365.out 1; have hfz15_2 := blk_frozen BK365.out 2; have hfz15_3 := blk_frozen BK365.out 3))
  go_ret
  exact ⟨by first | rfl | (simp [errW_none, errW_some] <;> rfl) | (simp [*, errW_none, errW_some] <;> rfl), by repeat (first | (with_reducible first | exact HB.out | apply below_alloc | apply pw_below_drewN | apply below_drew1 | refine below_set ?_ GE364.out | refine below_set ?_ GE365.out) | exact HB.out)⟩
end Go.Proofs.Ytfeeahjaeapkoaa.P
end

section
namespace Go.Proofs.Ytfeeahjaeapkoaa.P
open Go.RowKit Go.Proofs.YtfeeahjaeapkoaaW.PrintWords Go.Proofs.YtfeeahjaeapkoaaW.PrintLast Go.Proofs.YtfeeahjaeapkoaaW.PrintMore
attribute [local go_sem] max2_int min2_int max_two min_two max_three min_three max_four min_four   -- for this text's walks alone
set_option linter.unusedVariables false
set_option linter.unusedSimpArgs false
open Go.Proofs.Ytfeeahjaeapkoaa.Ext (q1_ q2_ q3_ bk_ bw_ sz_ ne_ bx_)
attribute [local go_sem high] Go.Proofs.Ytfeeahjaeapkoaa.Ext.gtr_str Go.Proofs.Ytfeeahjaeapkoaa.Ext.leq_str Go.Proofs.Ytfeeahjaeapkoaa.Ext.geq_str
def slices_EqualFunc_at_fact_Same_1.l0 : Nat → List (S40) → List (S40) → Int → Int → Option (Bool)
 | 0, _, _, _, _ => none
 | k + 1, x1, x15, x16, x17 => if x17 < x16 then (if 0 ≤ x17 then (if x17 < (x15.length : Int) then (if x17 < (x1.length : Int) then ((fact_Same_1.f k ((rd_T40 x15 x17).f0.f0) ((rd_T40 x15 x17).f0.f1) ((rd_T40 x15 x17).f0.f2) ((rd_T40 x15 x17).f1) ((rd_T40 x1 x17).f0.f0) ((rd_T40 x1 x17).f0.f1) ((rd_T40 x1 x17).f0.f2) ((rd_T40 x1 x17).f1)).bind fun t371 => (if t371 = true then (slices_EqualFunc_at_fact_Same_1.l0 k x1 x15 x16 (wrap64 (x17 + 1))) else (some false))) else (none)) else (none)) else (none)) else (some true)
def slices_EqualFunc_at_fact_Same_1.f (k : Nat) (l0 : List (S40)) (l1 : List (S40)) : Option (Bool) := if (l0.length : Int) = (l1.length : Int) then (slices_EqualFunc_at_fact_Same_1.l0 k l1 l0 (l0.length : Int) 0) else (some false)
set_option maxHeartbeats 8000000 in
set_option maxRecDepth 100000 in
theorem slices_EqualFunc_at_fact_Same_1.calls (k : Nat) (A0 : Option Addr) (c0 : Nat) (l0 : List (S40)) (A1 : Option Addr) (c1 : Nat) (l1 : List (S40)) (r : Bool) (w : World) (hr0 : Kd.C k40 w A0 l0.length l0) (hc0 : l0.length ≤ c0) (hr1 : Kd.C k40 w A1 l1.length l1) (hc1 : l1.length ≤ c1) (h : slices_EqualFunc_at_fact_Same_1.f k l0 l1 = some r) :
  Calls Try.prog 39 #[.slice A0 l0.length c0, .slice A1 l1.length c1, .func (.func 40) #[] #[]] w fun e w' => e = .returned (.bool r) ∧ Below w.heap.size w w' := by
 have hu40 := Try.underlying40
 have HR0 := Aside0.mk hr0
 have HC0 := Aside0.mk hc0
 clear hr0 hc0
 have HR1 := Aside0.mk hr1
 have HC1 := Aside0.mk hc1
 clear hr1 hc1
 have HB := Aside0.mk (Below.refl w.heap.size w)
 have H : (if (l0.length : Int) = (l1.length : Int) then (slices_EqualFunc_at_fact_Same_1.l0 k l1 l0 (l0.length : Int) 0) else (some false)) = some r := h
 clear h
 by_cases c3 : (l0.length : Int) = (l1.length : Int)
 ·rw [if_pos c3] at H
  have c3b0 : ((l0.length : Int) == (l1.length : Int)) = true := beq_iff_eq.mpr c3
  have c3b1 : ((l0.length : Int) != (l1.length : Int)) = false := bne_eq_false_iff_eq.mpr c3
  have c3b2 : (l0.length == l1.length) = true := by first | simpa using c3 | (simp at c3 ⊢; omega)
  clear c3
  have H' := Aside0.mk H
  clear H
  go_enter Try.func39, Try.ntmps39
  go_wp2
  go_loopg [17] k (fun kq v17 w' => ∃ (x17_1 : Int), v17 = .int .i64 x17_1 ∧ Aside0 (slices_EqualFunc_at_fact_Same_1.l0 kq l1 l0 (l0.length : Int) x17_1 = some r) ∧ Aside0 (kq ≤ k) ∧ Aside0 (Below w.heap.size w w'))
  case atStart => exact ⟨(0), (by first | rfl | (simp; done) | (simp [*]; done)), H', ⟨Nat.le_refl _⟩, ⟨by repeat (first | (with_reducible first | exact HB.out | apply below_alloc | apply pw_below_drewN | apply below_drew1) | exact HB.out)⟩⟩
  case round =>
   clear H'
   try clear c1
   try clear c2
   try clear p2
   try clear c3
   try clear c3b0
   try clear c3b1
   try clear c3b2
   obtain ⟨x17_1, rfl, HA, HK1, HB⟩ := hrel
   cases gk with
   | zero => exact absurd HA.out (by simp [slices_EqualFunc_at_fact_Same_1.l0])
   | succ k1 =>
    have H := HA.out
    clear HA
    simp only [slices_EqualFunc_at_fact_Same_1.l0] at H
    by_cases c4 : x17_1 < (l0.length : Int)
    ·rw [if_pos c4] at H
     have c4b0 : decide (x17_1 < (l0.length : Int)) = true := decide_eq_true c4
     clear c4
     by_cases c5 : 0 ≤ x17_1
     ·rw [if_pos c5] at H
      have c5b0 : decide (0 ≤ x17_1) = true := decide_eq_true c5
      clear c5
      by_cases c6 : x17_1 < (l0.length : Int)
      ·rw [if_pos c6] at H
       have c6b0 : decide (x17_1 < (l0.length : Int)) = true := decide_eq_true c6
       clear c6
       by_cases c7 : x17_1 < (l1.length : Int)
       ·rw [if_pos c7] at H
        have c7b0 : decide (x17_1 < (l1.length : Int)) = true := decide_eq_true c7
        clear c7
        replace H := Option.bind_eq_some_iff.mp H
        obtain ⟨t371, A80, H⟩ := H
        replace H : (if t371 = true then (slices_EqualFunc_at_fact_Same_1.l0 k1 l1 l0 (l0.length : Int) (wrap64 (x17_1 + 1))) else (some false)) = some r := H
        have A8 := Aside0.mk A80
        clear A80
        by_cases c9 : t371 = true
        ·subst c9
         have H1 : (slices_EqualFunc_at_fact_Same_1.l0 k1 l1 l0 (l0.length : Int) (wrap64 (x17_1 + 1))) = some r := by rw [if_pos rfl] at H; exact H
         clear H
         have H := H1
         clear H1
         have H' := Aside0.mk H
         clear H
         have p367 : 0 ≤ (x17_1 : Int) := of_decide_eq_true (by assumption)
         have q367 : x17_1 < (l0.length : Int) := of_decide_eq_true (by assumption)
         obtain ⟨ad367, A367_1, c367_1, A367_2, c367_2, e367, hx367_0, hx367_1, hx367_2, hx367_3, hl367_1, hi367_1, hl367_2, hi367_2⟩ := at_T40 HR0.out x17_1 p367 q367
         cases e367
         replace hx367_0 := pw_cell_below HB.out hx367_0
         replace hx367_1 := pw_cell_below HB.out hx367_1
         replace hx367_2 := pw_cell_below HB.out hx367_2
         replace hx367_3 := pw_cell_below HB.out hx367_3
         have HR367_1 := Aside0.mk hi367_1
         have HC367_1 := Aside0.mk hl367_1
         clear hi367_1 hl367_1
         have HR367_2 := Aside0.mk hi367_2
         have HC367_2 := Aside0.mk hl367_2
         clear hi367_2 hl367_2
         replace p367 := eq_true p367
         replace q367 := eq_true q367
         go_wp2_with (first | ((with_reducible refine gate_dst (N := 8) rfl ?_); refine bx_ (N := 8) (cs := #[.int .i64 0, .slice none 0 0, .slice none 0 0, .int .u64 0]) (t := 40) ?_; intro gb368 hg w10 hbox hb; have n0_ := Aside0.mk (below_step (bw_ HB.out) hb); have n1_ := Aside0.mk (hbox); have n2_ := Aside0.mk (sz_ hg (bw_ HB.out)); have n3_ := n2_; clear HB; have HB := n0_; have BK368 := n1_; have GW368 := n2_; have GE368 := n3_; clear n0_ n1_ n2_ n3_; clear hb hbox hg; have hcz11_0 : w10.cell? ⟨gb368, 0, none⟩ = some (.int .i64 0) := (blk_cell BK368.out 0).trans rfl; have hcz11_1 : w10.cell? ⟨gb368, 1, none⟩ = some (.slice none 0 0) := (blk_cell BK368.out 1).trans rfl; have hcz11_2 : w10.cell? ⟨gb368, 2, none⟩ = some (.slice none 0 0) := (blk_cell BK368.out 2).trans rfl; have hcz11_3 : w10.cell? ⟨gb368, 3, none⟩ = some (.int .u64 0) := (blk_cell BK368.out 3).trans rfl; have hfz11_0 := blk_frozen BK368.out 0; have hfz11_1 := blk_frozen BK368.out 1; have hfz11_2 := blk_frozen BK368.out 2; have hfz11_3 := blk_frozen BK368.out 3; have p369 : 0 ≤ (x17_1 : Int) := of_decide_eq_true (by assumption); have q369 : x17_1 < (l1.length : Int) := of_decide_eq_true (by assumption); obtain ⟨ad369, A369_1, c369_1, A369_2, c369_2, e369, hx369_0, hx369_1, hx369_2, hx369_3, hl369_1, hi369_1, hl369_2, hi369_2⟩ := at_T40 HR1.out x17_1 p369 q369; cases e369; have hn369_0 : ad369.block ≠ gb368 := Nat.ne_of_lt (Nat.lt_of_lt_of_le (by have := World.block_lt_of_cell? _ _ hx369_0; first | rwa [add_block] at this | exact this) GW368.out); have hn369_1 : ad369.block ≠ gb368 := Nat.ne_of_lt (Nat.lt_of_lt_of_le (by have := World.block_lt_of_cell? _ _ hx369_0; first | rwa [add_block] at this | exact this) GW368.out); have hn369_2 : ad369.block ≠ gb368 := Nat.ne_of_lt (Nat.lt_of_lt_of_le (by have := World.block_lt_of_cell? _ _ hx369_0; first | rwa [add_block] at this | exact this) GW368.out); have hn369_3 : ad369.block ≠ gb368 := Nat.ne_of_lt (Nat.lt_of_lt_of_le (by have := World.block_lt_of_cell? _ _ hx369_0; first | rwa [add_block] at this | exact this) GW368.out); replace hx369_0 := pw_cell_below HB.out hx369_0; replace hx369_1 := pw_cell_below HB.out hx369_1; replace hx369_2 := pw_cell_below HB.out hx369_2; replace hx369_3 := pw_cell_below HB.out hx369_3; have HR369_1 := Aside0.mk hi369_1; have HC369_1 := Aside0.mk hl369_1; clear hi369_1 hl369_1; have HR369_2 := Aside0.mk hi369_2; have HC369_2 := Aside0.mk hl369_2; clear hi369_2 hl369_2; replace hx369_0 := (cell_far (p := ⟨gb368, 0, none⟩) (by first | (rw [add_block]; exact hn369_0) | (show (Addr.add _ _).block ≠ _; rw [add_block]; exact hn369_0) | exact hn369_0) (.int .i64 ((rd_T40 l0 x17_1).f0.f0))).trans hx369_0; replace hx369_1 := (cell_far (p := ⟨gb368, 0, none⟩) (by first | (rw [add_block]; exact hn369_0) | (show (Addr.add _ _).block ≠ _; rw [add_block]; exact hn369_0) | exact hn369_0) (.int .i64 ((rd_T40 l0 x17_1).f0.f0))).trans hx369_1; replace hx369_2 := (cell_far (p := ⟨gb368, 0, none⟩) (by first | (rw [add_block]; exact hn369_0) | (show (Addr.add _ _).block ≠ _; rw [add_block]; exact hn369_0) | exact hn369_0) (.int .i64 ((rd_T40 l0 x17_1).f0.f0))).trans hx369_2; replace hx369_3 := (cell_far (p := ⟨gb368, 0, none⟩) (by first | (rw [add_block]; exact hn369_0) | (show (Addr.add _ _).block ≠ _; rw [add_block]; exact hn369_0) | exact hn369_0) (.int .i64 ((rd_T40 l0 x17_1).f0.f0))).trans hx369_3; replace hx369_0 := (cell_far (p := ⟨gb368, 1, none⟩) (by first | (rw [add_block]; exact hn369_1) | (show (Addr.add _ _).block ≠ _; rw [add_block]; exact hn369_1) | exact hn369_1) (.slice A367_1 ((rd_T40 l0 x17_1).f0.f1).length c367_1)).trans hx369_0; replace hx369_1 := (cell_far (p := ⟨gb368, 1, none⟩) (by first | (rw [add_block]; exact hn369_1) | (show (Addr.add _ _).block ≠ _; rw [add_block]; exact hn369_1) | exact hn369_1) (.slice A367_1 ((rd_T40 l0 x17_1).f0.f1).length c367_1)).trans hx369_1; replace hx369_2 := (cell_far (p := ⟨gb368, 1, none⟩) (by first | (rw [add_block]; exact hn369_1) | (show (Addr.add _ _).block ≠ _; rw [add_block]; exact hn369_1) | exact hn369_1) (.slice A367_1 ((rd_T40 l0 x17_1).f0.f1).length c367_1)).trans hx369_2; replace hx369_3 := (cell_far (p := ⟨gb368, 1, none⟩) (by first | (rw [add_block]; exact hn369_1) | (show (Addr.add _ _).block ≠ _; rw [add_block]; exact hn369_1) | exact hn369_1) (.slice A367_1 ((rd_T40 l0 x17_1).f0.f1).length c367_1)).trans hx369_3; replace hx369_0 := (cell_far (p := ⟨gb368, 2, none⟩) (by first | (rw [add_block]; exact hn369_2) | (show (Addr.add _ _).block ≠ _; rw [add_block]; exact hn369_2) | exact hn369_2) (.slice A367_2 ((rd_T40 l0 x17_1).f0.f2).length c367_2)).trans hx369_0; replace hx369_1 := (cell_far (p := ⟨gb368, 2, none⟩) (by first | (rw [add_block]; exact hn369_2) | (show (Addr.add _ _).block ≠ _; rw [add_block]; exact hn369_2) | exact hn369_2) (.slice A367_2 ((rd_T40 l0 x17_1).f0.f2).length c367_2)).trans hx369_1; replace hx369_2 := (cell_far (p := ⟨gb368, 2, none⟩) (by first | (rw [add_block]; exact hn369_2) | (show (Addr.add _ _).block ≠ _; rw [add_block]; exact hn369_2) | exact hn369_2) (.slice A367_2 ((rd_T40 l0 x17_1).f0.f2).length c367_2)).trans hx369_2; replace hx369_3 := (cell_far (p := ⟨gb368, 2, none⟩) (by first | (rw [add_block]; exact hn369_2) | (show (Addr.add _ _).block ≠ _; rw [add_block]; exact hn369_2) | exact hn369_2) (.slice A367_2 ((rd_T40 l0 x17_1).f0.f2).length c367_2)).trans hx369_3; replace hx369_0 := (cell_far (p := ⟨gb368, 3, none⟩) (by first | (rw [add_block]; exact hn369_3) | (show (Addr.add _ _).block ≠ _; rw [add_block]; exact hn369_3) | exact hn369_3) (.int .u64 ((rd_T40 l0 x17_1).f1))).trans hx369_0; replace hx369_1 := (cell_far (p := ⟨gb368, 3, none⟩) (by first | (rw [add_block]; exact hn369_3) | (show (Addr.add _ _).block ≠ _; rw [add_block]; exact hn369_3) | exact hn369_3) (.int .u64 ((rd_T40 l0 x17_1).f1))).trans hx369_1; replace hx369_2 := (cell_far (p := ⟨gb368, 3, none⟩) (by first | (rw [add_block]; exact hn369_3) | (show (Addr.add _ _).block ≠ _; rw [add_block]; exact hn369_3) | exact hn369_3) (.int .u64 ((rd_T40 l0 x17_1).f1))).trans hx369_2; replace hx369_3 := (cell_far (p := ⟨gb368, 3, none⟩) (by first | (rw [add_block]; exact hn369_3) | (show (Addr.add _ _).block ≠ _; rw [add_block]; exact hn369_3) | exact hn369_3) (.int .u64 ((rd_T40 l0 x17_1).f1))).trans hx369_3; clear hn369_0 hn369_1 hn369_2 hn369_3; replace p369 := eq_true p369; replace q369 := eq_true q369) | ((with_reducible refine gate_dst (N := 9) rfl ?_); refine bx_ (N := 9) (cs := #[.int .i64 0, .slice none 0 0, .slice none 0 0, .int .u64 0]) (t := 40) ?_; intro gb370 hg w12 hbox hb; have n0_ := Aside0.mk (blk_below (g := gb368) (o := .cells #[.int .i64 ((rd_T40 l0 x17_1).f0.f0), .slice A367_1 ((rd_T40 l0 x17_1).f0.f1).length c367_1, .slice A367_2 ((rd_T40 l0 x17_1).f0.f2).length c367_2, .int .u64 ((rd_T40 l0 x17_1).f1)] 40 (0, 0)) (by (with_reducible repeat (first | refine blk_drewN ?_ _ | refine blk_drew ?_ | refine blk_alloc ?_ _)); refine blk_put (cs := #[.int .i64 ((rd_T40 l0 x17_1).f0.f0), .slice A367_1 ((rd_T40 l0 x17_1).f0.f1).length c367_1, .slice A367_2 ((rd_T40 l0 x17_1).f0.f2).length c367_2, .int .u64 0]) ?_ 3 _ rfl; (with_reducible repeat (first | refine blk_drewN ?_ _ | refine blk_drew ?_ | refine blk_alloc ?_ _)); refine blk_put (cs := #[.int .i64 ((rd_T40 l0 x17_1).f0.f0), .slice A367_1 ((rd_T40 l0 x17_1).f0.f1).length c367_1, .slice none 0 0, .int .u64 0]) ?_ 2 _ rfl; (with_reducible repeat (first | refine blk_drewN ?_ _ | refine blk_drew ?_ | refine blk_alloc ?_ _)); refine blk_put (cs := #[.int .i64 ((rd_T40 l0 x17_1).f0.f0), .slice none 0 0, .slice none 0 0, .int .u64 0]) ?_ 1 _ rfl; (with_reducible repeat (first | refine blk_drewN ?_ _ | refine blk_drew ?_ | refine blk_alloc ?_ _)); refine blk_put (cs := #[.int .i64 0, .slice none 0 0, .slice none 0 0, .int .u64 0]) ?_ 0 _ rfl; (with_reducible repeat (first | refine blk_drewN ?_ _ | refine blk_drew ?_ | refine blk_alloc ?_ _)); exact BK368.out) hb); have n1_ := Aside0.mk (below_step (bw_ HB.out) hb); have n2_ := Aside0.mk (hbox); have n3_ := Aside0.mk (sz_ hg (bw_ HB.out)); have n4_ := n3_; have n5_ := Aside0.mk (ne_ hg (blk_lt (g := gb368) (o := .cells #[.int .i64 ((rd_T40 l0 x17_1).f0.f0), .slice A367_1 ((rd_T40 l0 x17_1).f0.f1).length c367_1, .slice A367_2 ((rd_T40 l0 x17_1).f0.f2).length c367_2, .int .u64 ((rd_T40 l0 x17_1).f1)] 40 (0, 0)) (by (with_reducible repeat (first | refine blk_drewN ?_ _ | refine blk_drew ?_ | refine blk_alloc ?_ _)); refine blk_put (cs := #[.int .i64 ((rd_T40 l0 x17_1).f0.f0), .slice A367_1 ((rd_T40 l0 x17_1).f0.f1).length c367_1, .slice A367_2 ((rd_T40 l0 x17_1).f0.f2).length c367_2, .int .u64 0]) ?_ 3 _ rfl; (with_reducible repeat (first | refine blk_drewN ?_ _ | refine blk_drew ?_ | refine blk_alloc ?_ _)); refine blk_put (cs := #[.int .i64 ((rd_T40 l0 x17_1).f0.f0), .slice A367_1 ((rd_T40 l0 x17_1).f0.f1).length c367_1, .slice none 0 0, .int .u64 0]) ?_ 2 _ rfl; (with_reducible repeat (first | refine blk_drewN ?_ _ | refine blk_drew ?_ | refine blk_alloc ?_ _)); refine blk_put (cs := #[.int .i64 ((rd_T40 l0 x17_1).f0.f0), .slice none 0 0, .slice none 0 0, .int .u64 0]) ?_ 1 _ rfl; (with_reducible repeat (first | refine blk_drewN ?_ _ | refine blk_drew ?_ | refine blk_alloc ?_ _)); refine blk_put (cs := #[.int .i64 0, .slice none 0 0, .slice none 0 0, .int .u64 0]) ?_ 0 _ rfl; (with_reducible repeat (first | refine blk_drewN ?_ _ | refine blk_drew ?_ | refine blk_alloc ?_ _)); exact BK368.out))); have n6_ := Aside0.mk n5_.out.symm; clear BK368 HB; have BK368 := n0_; have HB := n1_; have BK370 := n2_; have GW370 := n3_; have GE370 := n4_; have NB368_370 := n5_; have NB370_368 := n6_; clear n0_ n1_ n2_ n3_ n4_ n5_ n6_; clear hb hbox hg; have hnb13 := NB370_368.out; have hnc13 := NB368_370.out; have hcz14_0 : w12.cell? ⟨gb370, 0, none⟩ = some (.int .i64 0) := (blk_cell BK370.out 0).trans rfl; have hcz14_1 : w12.cell? ⟨gb370, 1, none⟩ = some (.slice none 0 0) := (blk_cell BK370.out 1).trans rfl; have hcz14_2 : w12.cell? ⟨gb370, 2, none⟩ = some (.slice none 0 0) := (blk_cell BK370.out 2).trans rfl; have hcz14_3 : w12.cell? ⟨gb370, 3, none⟩ = some (.int .u64 0) := (blk_cell BK370.out 3).trans rfl; have hfz14_0 := blk_frozen BK370.out 0; have hfz14_1 := blk_frozen BK370.out 1; have hfz14_2 := blk_frozen BK370.out 2; have hfz14_3 := blk_frozen BK370.out 3; have hcz15_0 : w12.cell? ⟨gb368, 0, none⟩ = some (.int .i64 ((rd_T40 l0 x17_1).f0.f0)) := (blk_cell BK368.out 0).trans rfl; have hcz15_1 : w12.cell? ⟨gb368, 1, none⟩ = some (.slice A367_1 ((rd_T40 l0 x17_1).f0.f1).length c367_1) := (blk_cell BK368.out 1).trans rfl; have hcz15_2 : w12.cell? ⟨gb368, 2, none⟩ = some (.slice A367_2 ((rd_T40 l0 x17_1).f0.f2).length c367_2) := (blk_cell BK368.out 2).trans rfl; have hcz15_3 : w12.cell? ⟨gb368, 3, none⟩ = some (.int .u64 ((rd_T40 l0 x17_1).f1)) := (blk_cell BK368.out 3).trans rfl; have hfz15_0 := blk_frozen BK368.out 0; have hfz15_1 := blk_frozen BK368.out 1; have hfz15_2 := blk_frozen BK368.out 2; have hfz15_3 := blk_frozen BK368.out 3) | (go_at_call 40; (with_reducible refine (fact_Same_1.calls k1 ((rd_T40 l0 x17_1).f0.f0) _ _ ((rd_T40 l0 x17_1).f0.f1) _ _ ((rd_T40 l0 x17_1).f0.f2) ((rd_T40 l0 x17_1).f1) ((rd_T40 l1 x17_1).f0.f0) _ _ ((rd_T40 l1 x17_1).f0.f1) _ _ ((rd_T40 l1 x17_1).f0.f2) ((rd_T40 l1 x17_1).f1) true _ ?side1 ?side2 ?side3 ?side4 ?side5 ?side6 ?side7 ?side8 A8.out).mono ?_); (case side1 => exact Kd.C_below HR367_1.out (bw_ HB.out)); (case side2 => exact HC367_1.out); (case side3 => exact Kd.C_below HR367_2.out (bw_ HB.out)); (case side4 => exact HC367_2.out); (case side5 => exact Kd.C_below HR369_1.out (bw_ HB.out)); (case side6 => exact HC369_1.out); (case side7 => exact Kd.C_below HR369_2.out (bw_ HB.out)); (case side8 => exact HC369_2.out); rintro e w16 ⟨rfl, hb⟩; have n0_ := Aside0.mk (blk_below (g := gb368) (o := .cells #[.int .i64 ((rd_T40 l0 x17_1).f0.f0), .slice A367_1 ((rd_T40 l0 x17_1).f0.f1).length c367_1, .slice A367_2 ((rd_T40 l0 x17_1).f0.f2).length c367_2, .int .u64 ((rd_T40 l0 x17_1).f1)] 40 (0, 0)) (by (with_reducible repeat (first | refine blk_drewN ?_ _ | refine blk_drew ?_ | refine blk_alloc ?_ _)); refine blk_far ?_ NB368_370.out _; (with_reducible repeat (first | refine blk_drewN ?_ _ | refine blk_drew ?_ | refine blk_alloc ?_ _)); refine blk_far ?_ NB368_370.out _; (with_reducible repeat (first | refine blk_drewN ?_ _ | refine blk_drew ?_ | refine blk_alloc ?_ _)); refine blk_far ?_ NB368_370.out _; (with_reducible repeat (first | refine blk_drewN ?_ _ | refine blk_drew ?_ | refine blk_alloc ?_ _)); refine blk_far ?_ NB368_370.out _; (with_reducible repeat (first | refine blk_drewN ?_ _ | refine blk_drew ?_ | refine blk_alloc ?_ _)); exact BK368.out) hb); have n1_ := Aside0.mk (blk_below (g := gb370) (o := .cells #[.int .i64 ((rd_T40 l1 x17_1).f0.f0), .slice A369_1 ((rd_T40 l1 x17_1).f0.f1).length c369_1, .slice A369_2 ((rd_T40 l1 x17_1).f0.f2).length c369_2, .int .u64 ((rd_T40 l1 x17_1).f1)] 40 (0, 0)) (by (with_reducible repeat (first | refine blk_drewN ?_ _ | refine blk_drew ?_ | refine blk_alloc ?_ _)); refine blk_put (cs := #[.int .i64 ((rd_T40 l1 x17_1).f0.f0), .slice A369_1 ((rd_T40 l1 x17_1).f0.f1).length c369_1, .slice A369_2 ((rd_T40 l1 x17_1).f0.f2).length c369_2, .int .u64 0]) ?_ 3 _ rfl; (with_reducible repeat (first | refine blk_drewN ?_ _ | refine blk_drew ?_ | refine blk_alloc ?_ _)); refine blk_put (cs := #[.int .i64 ((rd_T40 l1 x17_1).f0.f0), .slice A369_1 ((rd_T40 l1 x17_1).f0.f1).length c369_1, .slice none 0 0, .int .u64 0]) ?_ 2 _ rfl; (with_reducible repeat (first | refine blk_drewN ?_ _ | refine blk_drew ?_ | refine blk_alloc ?_ _)); refine blk_put (cs := #[.int .i64 ((rd_T40 l1 x17_1).f0.f0), .slice none 0 0, .slice none 0 0, .int .u64 0]) ?_ 1 _ rfl; (with_reducible repeat (first | refine blk_drewN ?_ _ | refine blk_drew ?_ | refine blk_alloc ?_ _)); refine blk_put (cs := #[.int .i64 0, .slice none 0 0, .slice none 0 0, .int .u64 0]) ?_ 0 _ rfl; (with_reducible repeat (first | refine blk_drewN ?_ _ | refine blk_drew ?_ | refine blk_alloc ?_ _)); exact BK370.out) hb); have n2_ := Aside0.mk (below_step (bw_ HB.out) hb); clear BK368 BK370 HB; have BK368 := n0_; have BK370 := n1_; have HB := n2_; clear n0_ n1_ n2_; (try clear hb); (try clear hb2); (try clear hk); (try clear hi)))
         go_roundg k1
         case measure => have := HK1.out; omega
         case rel => exact ⟨(wrap64 (x17_1 + 1)), (by first | rfl | (simp; done) | (simp [*]; done)), H', ⟨by have := HK1.out; omega⟩, ⟨by repeat (first | (with_reducible first | exact HB.out | apply below_alloc | apply pw_below_drewN | apply below_drew1 | refine below_set ?_ GE368.out | refine below_set ?_ GE370.out) | exact HB.out)⟩⟩
        ·replace c9 := Bool.eq_false_iff.mpr c9
         subst c9
         have H1 : (some false) = some r := by rw [if_neg (show ¬ (false = true) by decide)] at H; exact H
         clear H
         have H := H1
         clear H1
         obtain rfl := Option.some.inj H
         have p367 : 0 ≤ (x17_1 : Int) := of_decide_eq_true (by assumption)
         have q367 : x17_1 < (l0.length : Int) := of_decide_eq_true (by assumption)
         obtain ⟨ad367, A367_1, c367_1, A367_2, c367_2, e367, hx367_0, hx367_1, hx367_2, hx367_3, hl367_1, hi367_1, hl367_2, hi367_2⟩ := at_T40 HR0.out x17_1 p367 q367
         cases e367
         replace hx367_0 := pw_cell_below HB.out hx367_0
         replace hx367_1 := pw_cell_below HB.out hx367_1
         replace hx367_2 := pw_cell_below HB.out hx367_2
         replace hx367_3 := pw_cell_below HB.out hx367_3
         have HR367_1 := Aside0.mk hi367_1
         have HC367_1 := Aside0.mk hl367_1
         clear hi367_1 hl367_1
         have HR367_2 := Aside0.mk hi367_2
         have HC367_2 := Aside0.mk hl367_2
         clear hi367_2 hl367_2
         replace p367 := eq_true p367
         replace q367 := eq_true q367
         go_wp2_with (first | ((with_reducible refine gate_dst (N := 8) rfl ?_); refine bx_ (N := 8) (cs := #[.int .i64 0, .slice none 0 0, .slice none 0 0, .int .u64 0]) (t := 40) ?_; intro gb368 hg w17 hbox hb; have n0_ := Aside0.mk (below_step (bw_ HB.out) hb); have n1_ := Aside0.mk (hbox); have n2_ := Aside0.mk (sz_ hg (bw_ HB.out)); have n3_ := n2_; clear HB; have HB := n0_; have BK368 := n1_; have GW368 := n2_; have GE368 := n3_; clear n0_ n1_ n2_ n3_; clear hb hbox hg; have hcz18_0 : w17.cell? ⟨gb368, 0, none⟩ = some (.int .i64 0) := (blk_cell BK368.out 0).trans rfl; have hcz18_1 : w17.cell? ⟨gb368, 1, none⟩ = some (.slice none 0 0) := (blk_cell BK368.out 1).trans rfl; have hcz18_2 : w17.cell? ⟨gb368, 2, none⟩ = some (.slice none 0 0) := (blk_cell BK368.out 2).trans rfl; have hcz18_3 : w17.cell? ⟨gb368, 3, none⟩ = some (.int .u64 0) := (blk_cell BK368.out 3).trans rfl; have hfz18_0 := blk_frozen BK368.out 0; have hfz18_1 := blk_frozen BK368.out 1; have hfz18_2 := blk_frozen BK368.out 2; have hfz18_3 := blk_frozen BK368.out 3; have p369 : 0 ≤ (x17_1 : Int) := of_decide_eq_true (by assumption); have q369 : x17_1 < (l1.length : Int) := of_decide_eq_true (by assumption); obtain ⟨ad369, A369_1, c369_1, A369_2, c369_2, e369, hx369_0, hx369_1, hx369_2, hx369_3, hl369_1, hi369_1, hl369_2, hi369_2⟩ := at_T40 HR1.out x17_1 p369 q369; cases e369; have hn369_0 : ad369.block ≠ gb368 := Nat.ne_of_lt (Nat.lt_of_lt_of_le (by have := World.block_lt_of_cell? _ _ hx369_0; first | rwa [add_block] at this | exact this) GW368.out); have hn369_1 : ad369.block ≠ gb368 := Nat.ne_of_lt (Nat.lt_of_lt_of_le (by have := World.block_lt_of_cell? _ _ hx369_0; first | rwa [add_block] at this | exact this) GW368.out); have hn369_2 : ad369.block ≠ gb368 := Nat.ne_of_lt (Nat.lt_of_lt_of_le (by have := World.block_lt_of_cell? _ _ hx369_0; first | rwa [add_block] at this | exact this) GW368.out); have hn369_3 : ad369.block ≠ gb368 := Nat.ne_of_lt (Nat.lt_of_lt_of_le (by have := World.block_lt_of_cell? _ _ hx369_0; first | rwa [add_block] at this | exact this) GW368.out); replace hx369_0 := pw_cell_below HB.out hx369_0; replace hx369_1 := pw_cell_below HB.out hx369_1; replace hx369_2 := pw_cell_below HB.out hx369_2; replace hx369_3 := pw_cell_below HB.out hx369_3; have HR369_1 := Aside0.mk hi369_1; have HC369_1 := Aside0.mk hl369_1; clear hi369_1 hl369_1; have HR369_2 := Aside0.mk hi369_2; have HC369_2 := Aside0.mk hl369_2; clear hi369_2 hl369_2; replace hx369_0 := (cell_far (p := ⟨gb368, 0, none⟩) (by first | (rw [add_block]; exact hn369_0) | (show (Addr.add _ _).block ≠ _; rw [add_block]; exact hn369_0) | exact hn369_0) (.int .i64 ((rd_T40 l0 x17_1).f0.f0))).trans hx369_0; replace hx369_1 := (cell_far (p := ⟨gb368, 0, none⟩) (by first | (rw [add_block]; exact hn369_0) | (show (Addr.add _ _).block ≠ _; rw [add_block]; exact hn369_0) | exact hn369_0) (.int .i64 ((rd_T40 l0 x17_1).f0.f0))).trans hx369_1; replace hx369_2 := (cell_far (p := ⟨gb368, 0, none⟩) (by first | (rw [add_block]; exact hn369_0) | (show (Addr.add _ _).block ≠ _; rw [add_block]; exact hn369_0) | exact hn369_0) (.int .i64 ((rd_T40 l0 x17_1).f0.f0))).trans hx369_2; replace hx369_3 := (cell_far (p := ⟨gb368, 0, none⟩) (by first | (rw [add_block]; exact hn369_0) | (show (Addr.add _ _).block ≠ _; rw [add_block]; exact hn369_0) | exact hn369_0) (.int .i64 ((rd_T40 l0 x17_1).f0.f0))).trans hx369_3; replace hx369_0 := (cell_far (p := ⟨gb368, 1, none⟩) (by first | (rw [add_block]; exact hn369_1) | (show (Addr.add _ _).block ≠ _; rw [add_block]; exact hn369_1) | exact hn369_1) (.slice A367_1 ((rd_T40 l0 x17_1).f0.f1).length c367_1)).trans hx369_0; replace hx369_1 := (cell_far (p := ⟨gb368, 1, none⟩) (by first | (rw [add_block]; exact hn369_1) | (show (Addr.add _ _).block ≠ _; rw [add_block]; exact hn369_1) | exact hn369_1) (.slice A367_1 ((rd_T40 l0 x17_1).f0.f1).length c367_1)).trans hx369_1; replace hx369_2 := (cell_far (p := ⟨gb368, 1, none⟩) (by first | (rw [add_block]; exact hn369_1) | (show (Addr.add _ _).block ≠ _; rw [add_block]; exact hn369_1) | exact hn369_1) (.slice A367_1 ((rd_T40 l0 x17_1).f0.f1).length c367_1)).trans hx369_2; replace hx369_3 := (cell_far (p := ⟨gb368, 1, none⟩) (by first | (rw [add_block]; exact hn369_1) | (show (Addr.add _ _).block ≠ _; rw [add_block]; exact hn369_1) | exact hn369_1) (.slice A367_1 ((rd_T40 l0 x17_1).f0.f1).length c367_1)).trans hx369_3; replace hx369_0 := (cell_far (p := ⟨gb368, 2, none⟩) (by first | (rw [add_block]; exact hn369_2) | (show (Addr.add _ _).block ≠ _; rw [add_block]; exact hn369_2) | exact hn369_2) (.slice A367_2 ((rd_T40 l0 x17_1).f0.f2).length c367_2)).trans hx369_0; replace hx369_1 := (cell_far (p := ⟨gb368, 2, none⟩) (by first | (rw [add_block]; exact hn369_2) | (show (Addr.add _ _).block ≠ _; rw [add_block]; exact hn369_2) | exact hn369_2) (.slice A367_2 ((rd_T40 l0 x17_1).f0.f2).length c367_2)).trans hx369_1; replace hx369_2 := (cell_far (p := ⟨gb368, 2, none⟩) (by first | (rw [add_block]; exact hn369_2) | (show (Addr.add _ _).block ≠ _; rw [add_block]; exact hn369_2) | exact hn369_2) (.slice A367_2 ((rd_T40 l0 x17_1).f0.f2).length c367_2)).trans hx369_2; replace hx369_3 := (cell_far (p := ⟨gb368, 2, none⟩) (by first | (rw [add_block]; exact hn369_2) | (show (Addr.add _ _).block ≠ _; rw [add_block]; exact hn369_2) | exact hn369_2) (.slice A367_2 ((rd_T40 l0 x17_1).f0.f2).length c367_2)).trans hx369_3; replace hx369_0 := (cell_far (p := ⟨gb368, 3, none⟩) (by first | (rw [add_block]; exact hn369_3) | (show (Addr.add _ _).block ≠ _; rw [add_block]; exact hn369_3) | exact hn369_3) (.int .u64 ((rd_T40 l0 x17_1).f1))).trans hx369_0; replace hx369_1 := (cell_far (p := ⟨gb368, 3, none⟩) (by first | (rw [add_block]; exact hn369_3) | (show (Addr.add _ _).block ≠ _; rw [add_block]; exact hn369_3) | exact hn369_3) (.int .u64 ((rd_T40 l0 x17_1).f1))).trans hx369_1; replace hx369_2 := (cell_far (p := ⟨gb368, 3, none⟩) (by first | (rw [add_block]; exact hn369_3) | (show (Addr.add _ _).block ≠ _; rw [add_block]; exact hn369_3) | exact hn369_3) (.int .u64 ((rd_T40 l0 x17_1).f1))).trans hx369_2; replace hx369_3 := (cell_far (p := ⟨gb368, 3, none⟩) (by first | (rw [add_block]; exact hn369_3) | (show (Addr.add _ _).block ≠ _; rw [add_block]; exact hn369_3) | exact hn369_3) (.int .u64 ((rd_T40 l0 x17_1).f1))).trans hx369_3; clear hn369_0 hn369_1 hn369_2 hn369_3; replace p369 := eq_true p369; replace q369 := eq_true q369) | ((with_reducible refine gate_dst (N := 9) rfl ?_); refine bx_ (N := 9) (cs := #[.int .i64 0, .slice none 0 0, .slice none 0 0, .int .u64 0]) (t := 40) ?_; intro gb370 hg w19 hbox hb; have n0_ := Aside0.mk (blk_below (g := gb368) (o := .cells #[.int .i64 ((rd_T40 l0 x17_1).f0.f0), .slice A367_1 ((rd_T40 l0 x17_1).f0.f1).length c367_1, .slice A367_2 ((rd_T40 l0 x17_1).f0.f2).length c367_2, .int .u64 ((rd_T40 l0 x17_1).f1)] 40 (0, 0)) (by (with_reducible repeat (first | refine blk_drewN ?_ _ | refine blk_drew ?_ | refine blk_alloc ?_ _)); refine blk_put (cs := #[.int .i64 ((rd_T40 l0 x17_1).f0.f0), .slice A367_1 ((rd_T40 l0 x17_1).f0.f1).length c367_1, .slice A367_2 ((rd_T40 l0 x17_1).f0.f2).length c367_2, .int .u64 0]) ?_ 3 _ rfl; (with_reducible repeat (first | refine blk_drewN ?_ _ | refine blk_drew ?_ | refine blk_alloc ?_ _)); refine blk_put (cs := #[.int .i64 ((rd_T40 l0 x17_1).f0.f0), .slice A367_1 ((rd_T40 l0 x17_1).f0.f1).length c367_1, .slice none 0 0, .int .u64 0]) ?_ 2 _ rfl; (with_reducible repeat (first | refine blk_drewN ?_ _ | refine blk_drew ?_ | refine blk_alloc ?_ _)); refine blk_put (cs := #[.int .i64 ((rd_T40 l0 x17_1).f0.f0), .slice none 0 0, .slice none 0 0, .int .u64 0]) ?_ 1 _ rfl; (with_reducible repeat (first | refine blk_drewN ?_ _ | refine blk_drew ?_ | refine blk_alloc ?_ _)); refine blk_put (cs := #[.int .i64 0, .slice none 0 0, .slice none 0 0, .int .u64 0]) ?_ 0 _ rfl; (with_reducible repeat (first | refine blk_drewN ?_ _ | refine blk_drew ?_ | refine blk_alloc ?_ _)); exact BK368.out) hb); have n1_ := Aside0.mk (below_step (bw_ HB.out) hb); have n2_ := Aside0.mk (hbox); have n3_ := Aside0.mk (sz_ hg (bw_ HB.out)); have n4_ := n3_; have n5_ := Aside0.mk (ne_ hg (blk_lt (g := gb368) (o := .cells #[.int .i64 ((rd_T40 l0 x17_1).f0.f0), .slice A367_1 ((rd_T40 l0 x17_1).f0.f1).length c367_1, .slice A367_2 ((rd_T40 l0 x17_1).f0.f2).length c367_2, .int .u64 ((rd_T40 l0 x17_1).f1)] 40 (0, 0)) (by (with_reducible repeat (first | refine blk_drewN ?_ _ | refine blk_drew ?_ | refine blk_alloc ?_ _)); refine blk_put (cs := #[.int .i64 ((rd_T40 l0 x17_1).f0.f0), .slice A367_1 ((rd_T40 l0 x17_1).f0.f1).length c367_1, .slice A367_2 ((rd_T40 l0 x17_1).f0.f2).length c367_2, .int .u64 0]) ?_ 3 _ rfl; (with_reducible repeat (first | refine blk_drewN ?_ _ | refine blk_drew ?_ | refine blk_alloc ?_ _)); refine blk_put (cs := #[.int .i64 ((rd_T40 l0 x17_1).f0.f0), .slice A367_1 ((rd_T40 l0 x17_1).f0.f1).length c367_1, .slice none 0 0, .int .u64 0]) ?_ 2 _ rfl; (with_reducible repeat (first | refine blk_drewN ?_ _ | refine blk_drew ?_ | refine blk_alloc ?_ _)); refine blk_put (cs := #[.int .i64 ((rd_T40 l0 x17_1).f0.f0), .slice none 0 0, .slice none 0 0, .int .u64 0]) ?_ 1 _ rfl; (with_reducible repeat (first | refine blk_drewN ?_ _ | refine blk_drew ?_ | refine blk_alloc ?_ _)); refine blk_put (cs := #[.int .i64 0, .slice none 0 0, .slice none 0 0, .int .u64 0]) ?_ 0 _ rfl; (with_reducible repeat (first | refine blk_drewN ?_ _ | refine blk_drew ?_ | refine blk_alloc ?_ _)); exact BK368.out))); have n6_ := Aside0.mk n5_.out.symm; clear BK368 HB; have BK368 := n0_; have HB := n1_; have BK370 := n2_; have GW370 := n3_; have GE370 := n4_; have NB368_370 := n5_; have NB370_368 := n6_; clear n0_ n1_ n2_ n3_ n4_ n5_ n6_; clear hb hbox hg; have hnb20 := NB370_368.out; have hnc20 := NB368_370.out; have hcz21_0 : w19.cell? ⟨gb370, 0, none⟩ = some (.int .i64 0) := (blk_cell BK370.out 0).trans rfl; have hcz21_1 : w19.cell? ⟨gb370, 1, none⟩ = some (.slice none 0 0) := (blk_cell BK370.out 1).trans rfl; have hcz21_2 : w19.cell? ⟨gb370, 2, none⟩ = some (.slice none 0 0) := (blk_cell BK370.out 2).trans rfl; have hcz21_3 : w19.cell? ⟨gb370, 3, none⟩ = some (.int .u64 0) := (blk_cell BK370.out 3).trans rfl; have hfz21_0 := blk_frozen BK370.out 0; have hfz21_1 := blk_frozen BK370.out 1; have hfz21_2 := blk_frozen BK370.out 2; have hfz21_3 := blk_frozen BK370.out 3; have hcz22_0 : w19.cell? ⟨gb368, 0, none⟩ = some (.int .i64 ((rd_T40 l0 x17_1).f0.f0)) := (blk_cell BK368.out 0).trans rfl; have hcz22_1 : w19.cell? ⟨gb368, 1, none⟩ = some (.slice A367_1 ((rd_T40 l0 x17_1).f0.f1).length c367_1) := (blk_cell BK368.out 1).trans rfl; have hcz22_2 : w19.cell? ⟨gb368, 2, none⟩ = some (.slice A367_2 ((rd_T40 l0 x17_1).f0.f2).length c367_2) := (blk_cell BK368.out 2).trans rfl; have hcz22_3 : w19.cell? ⟨gb368, 3, none⟩ = some (.int .u64 ((rd_T40 l0 x17_1).f1)) := (blk_cell BK368.out 3).trans rfl; have hfz22_0 := blk_frozen BK368.out 0; have hfz22_1 := blk_frozen BK368.out 1; have hfz22_2 := blk_frozen BK368.out 2; have hfz22_3 := blk_frozen BK368.out 3) | (go_at_call 40; (with_reducible refine (fact_Same_1.calls k1 ((rd_T40 l0 x17_1).f0.f0) _ _ ((rd_T40 l0 x17_1).f0.f1) _ _ ((rd_T40 l0 x17_1).f0.f2) ((rd_T40 l0 x17_1).f1) ((rd_T40 l1 x17_1).f0.f0) _ _ ((rd_T40 l1 x17_1).f0.f1) _ _ ((rd_T40 l1 x17_1).f0.f2) ((rd_T40 l1 x17_1).f1) false _ ?side1 ?side2 ?side3 ?side4 ?side5 ?side6 ?side7 ?side8 A8.out).mono ?_); (case side1 => exact Kd.C_below HR367_1.out (bw_ HB.out)); (case side2 => exact HC367_1.out); (case side3 => exact Kd.C_below HR367_2.out (bw_ HB.out)); (case side4 => exact HC367_2.out); (case side5 => exact Kd.C_below HR369_1.out (bw_ HB.out)); (case side6 => exact HC369_1.out); (case side7 => exact Kd.C_below HR369_2.out (bw_ HB.out)); (case side8 => exact HC369_2.out); rintro e w23 ⟨rfl, hb⟩; have n0_ := Aside0.mk (blk_below (g := gb368) (o := .cells #[.int .i64 ((rd_T40 l0 x17_1).f0.f0), .slice A367_1 ((rd_T40 l0 x17_1).f0.f1).length c367_1, .slice A367_2 ((rd_T40 l0 x17_1).f0.f2).length c367_2, .int .u64 ((rd_T40 l0 x17_1).f1)] 40 (0, 0)) (by (with_reducible repeat (first | refine blk_drewN ?_ _ | refine blk_drew ?_ | refine blk_alloc ?_ _)); refine blk_far ?_ NB368_370.out _; (with_reducible repeat (first | refine blk_drewN ?_ _ | refine blk_drew ?_ | refine blk_alloc ?_ _)); refine blk_far ?_ NB368_370.out _; (with_reducible repeat (first | refine blk_drewN ?_ _ | refine blk_drew ?_ | refine blk_alloc ?_ _)); refine blk_far ?_ NB368_370.out _; (with_reducible repeat (first | refine blk_drewN ?_ _ | refine blk_drew ?_ | refine blk_alloc ?_ _)); refine blk_far ?_ NB368_370.out _; (with_reducible repeat (first | refine blk_drewN ?_ _ | refine blk_drew ?_ | refine blk_alloc ?_ _)); exact BK368.out) hb); have n1_ := Aside0.mk (blk_below (g := gb370) (o := .cells #[.int .i64 ((rd_T40 l1 x17_1).f0.f0), .slice A369_1 ((rd_T40 l1 x17_1).f0.f1).length c369_1, .slice A369_2 ((rd_T40 l1 x17_1).f0.f2).length c369_2, .int .u64 ((rd_T40 l1 x17_1).f1)] 40 (0, 0)) (by (with_reducible repeat (first | refine blk_drewN ?_ _ | refine blk_drew ?_ | refine blk_alloc ?_ _)); refine blk_put (cs := #[.int .i64 ((rd_T40 l1 x17_1).f0.f0), .slice A369_1 ((rd_T40 l1 x17_1).f0.f1).length c369_1, .slice A369_2 ((rd_T40 l1 x17_1).f0.f2).length c369_2, .int .u64 0]) ?_ 3 _ rfl; (with_reducible repeat (first | refine blk_drewN ?_ _ | refine blk_drew ?_ | refine blk_alloc ?_ _)); refine blk_put (cs := #[.int .i64 ((rd_T40 l1 x17_1).f0.f0), .slice A369_1 ((rd_T40 l1 x17_1).f0.f1).length c369_1, .slice none 0 0, .int .u64 0]) ?_ 2 _ rfl; (with_reducible repeat (first | refine blk_drewN ?_ _ | refine blk_drew ?_ | refine blk_alloc ?_ _)); refine blk_put (cs := #[.int .i64 ((rd_T40 l1 x17_1).f0.f0), .slice none 0 0, .slice none 0 0, .int .u64 0]) ?_ 1 _ rfl; (with_reducible repeat (first | refine blk_drewN ?_ _ | refine blk_drew ?_ | refine blk_alloc ?_ _)); refine blk_put (cs := #[.int .i64 0, .slice none 0 0, .slice none 0 0, .int .u64 0]) ?_ 0 _ rfl; (with_reducible repeat (first | refine blk_drewN ?_ _ | refine blk_drew ?_ | refine blk_alloc ?_ _)); exact BK370.out) hb); have n2_ := Aside0.mk (below_step (bw_ HB.out) hb); clear BK368 BK370 HB; have BK368 := n0_; have BK370 := n1_; have HB := n2_; clear n0_ n1_ n2_; (try clear hb); (try clear hb2); (try clear hk); (try clear hi)))
         go_ret
         exact ⟨by first | rfl | (simp [errW_none, errW_some] <;> rfl) | (simp [*, errW_none, errW_some] <;> rfl), by repeat (first | (with_reducible first | exact HB.out | apply below_alloc | apply pw_below_drewN | apply below_drew1 | refine below_set ?_ GE368.out | refine below_set ?_ GE370.out) | exact HB.out)⟩
       ·rw [if_neg c7] at H
        exact absurd H (by simp)
      ·rw [if_neg c6] at H
       exact absurd H (by simp)
     ·rw [if_neg c5] at H
      exact absurd H (by simp)
    ·rw [if_neg c4] at H
     have c4b0 : decide (x17_1 < (l0.length : Int)) = false := decide_eq_false c4
     clear c4
     obtain rfl := Option.some.inj H
     go_wp2
     go_ret
     exact ⟨by first | rfl | (simp [errW_none, errW_some] <;> rfl) | (simp [*, errW_none, errW_some] <;> rfl), by repeat (first | (with_reducible first | exact HB.out | apply below_alloc | apply pw_below_drewN | apply below_drew1) | exact HB.out)⟩
 ·rw [if_neg c3] at H
  have c3b0 : ((l0.length : Int) == (l1.length : Int)) = false := beq_eq_false_iff_ne.mpr c3
  have c3b1 : ((l0.length : Int) != (l1.length : Int)) = true := bne_iff_ne.mpr c3
  have c3b2 : (l0.length == l1.length) = false := by first | simpa using c3 | (simp at c3 ⊢; omega)
  obtain rfl := Option.some.inj H
  go_enter Try.func39, Try.ntmps39
  go_wp2
  go_ret
  exact ⟨by first | rfl | (simp [errW_none, errW_some] <;> rfl) | (simp [*, errW_none, errW_some] <;> rfl), by repeat (first | (with_reducible first | exact HB.out | apply below_alloc | apply pw_below_drewN | apply below_drew1) | exact HB.out)⟩
end Go.Proofs.Ytfeeahjaeapkoaa.P
end

section
namespace Go.Proofs.Ytfeeahjaeapkoaa.P
set_option linter.unusedVariables false
set_option linter.unusedSimpArgs false
open Go.RowKit Go.Proofs.YtfeeahjaeapkoaaW.PrintWords Go.Proofs.YtfeeahjaeapkoaaW.PrintLast Go.Proofs.YtfeeahjaeapkoaaW.PrintMore Go.Proofs.Ytfeeahjaeapkoaa.Lib Go.Proofs.Ytfeeahjaeapkoaa.Ext
def fact_Same.f (k : Nat) (l0 : List (S40)) (l1 : List (S40)) : Option (Bool) := (fact_bag_at_fact_all.f l0).bind fun t => (fact_bag_at_fact_all.f l1).bind fun u => slices_EqualFunc_at_fact_Same_1.f k t u
set_option maxRecDepth 100000 in
set_option maxHeartbeats 400000 in
theorem fact_Same.calls (k : Nat) (A0 : Option Addr) (c0 : Nat) (l0 : List (S40)) (A1 : Option Addr) (c1 : Nat) (l1 : List (S40)) (r : Bool) (w : World) (hr0 : Kd.C k40 w A0 l0.length l0) (hc0 : l0.length ≤ c0) (hr1 : Kd.C k40 w A1 l1.length l1) (hc1 : l1.length ≤ c1) (h : fact_Same.f k l0 l1 = some r) :
    Calls Try.prog 26 #[.slice A0 l0.length c0, .slice A1 l1.length c1] w fun e w' => e = .returned (.bool r) ∧ Below w.heap.size w w' := by
  unfold fact_Same.f at h
  obtain ⟨t, h1, h⟩ := Option.bind_eq_some_iff.1 h
  obtain ⟨u, h2, h⟩ := Option.bind_eq_some_iff.1 h
  have HA := Aside0.mk (fun wx (hb : Below w.heap.size w wx) => fact_bag_at_fact_all.calls A0 c0 l0 t wx (Kd.C_below hr0 hb) hc0 h1)
  have HB := Aside0.mk (fun wx (hb : Below w.heap.size w wx) => fact_bag_at_fact_all.calls A1 c1 l1 u wx (Kd.C_below hr1 hb) hc1 h2)
  have HC := Aside0.mk h
  clear hr0 hc0 hr1 hc1 h1 h2 h
  generalize l0.length = n at *
  generalize l1.length = m at *
  go_enter Try.func26, Try.ntmps26
  go_wp2_with (first
    | (go_at_call 33; (fail_if_success (have := HX1)); refine (HA.out _ (Below.refl _ _)).mono ?_; rintro e w1 ⟨v1, rfl, hr, hb⟩; obtain ⟨A2, c2, rfl, hc2, hC2⟩ := Kd.R_reads hr; have HL2 := Aside0.mk hc2; have HC2 := Aside0.mk hC2; have HX1 := Aside0.mk hb; clear hr hb hc2 hC2)
    | (go_at_call 33; refine (HB.out _ HX1.out).mono ?_; rintro e w2 ⟨v2, rfl, hr, hb⟩; obtain ⟨A3, c3, rfl, hc3, hC3⟩ := Kd.R_reads hr; have HL3 := Aside0.mk hc3; have HC3 := Aside0.mk hC3; have HC2b := Aside0.mk (Kd.C_below HC2.out hb); have HX2 := Aside0.mk (below_then HX1.out HX1.out.size hb); clear hr hb hc3 hC3)
    | (go_at_call 39; refine (slices_EqualFunc_at_fact_Same_1.calls k A2 c2 t A3 c3 u r w2 HC2b.out HL2.out HC3.out HL3.out HC.out).mono ?_; rintro e w3 ⟨rfl, hd⟩; have HX3 := Aside0.mk (below_then HX2.out HX2.out.size (show Below w2.heap.size w2 w3 by first | exact hd | exact hd.below)); clear hd)
    | fail)
  go_ret
  exact ⟨rfl, HX3.out⟩
end Go.Proofs.Ytfeeahjaeapkoaa.P
end
