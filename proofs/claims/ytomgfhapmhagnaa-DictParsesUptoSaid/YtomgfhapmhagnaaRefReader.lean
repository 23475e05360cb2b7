/- The reference's reader. -/
import Derived.Test.YtomgfhapmhagnaaRead
import Derived.Test.YtomgfhapmhagnaaReader
namespace Go.Proofs.Ytomgfhapmhagnaa.RefReader
set_option linter.unusedVariables false
set_option linter.unusedSimpArgs false
open Go.RowKit Go.Proofs.YtomgfhapmhagnaaW.PrintWords Go.Proofs.YtomgfhapmhagnaaW.PrintLast Go.Proofs.YtomgfhapmhagnaaW.PrintMore Go.Proofs.Ytomgfhapmhagnaa.Lib Go.Proofs.Ytomgfhapmhagnaa.Read
open Go.Proofs.Ytomgfhapmhagnaa.Reader (drop_cons)

/-- What the place and the error tell. -/
def told (xs : List Int) (a : Nat) (bad : Int) : St := (if bad = 0 then xs.drop a else [], bad)
/-- The reference's reader lies in block g. -/
def RRd (w0 w : World) (g : Nat) (xs : List Int) (a : Nat) (bad : Int) : Prop :=
  w0.heap.size ≤ g ∧ Below w0.heap.size w0 w ∧ ∃ A n c, w.heap[g]? = some (.cells #[.slice A n c, .int .i64 a, .int .i64 bad] 76 (0, 0)) ∧ Kd.C (Kd.int .u8) w0 A n xs ∧ n ≤ c ∧ Bytes xs ∧ a ≤ n
/-- .. in the words of the other reader. -/
def RS (w0 w : World) (g : Nat) (s : St) : Prop := ∃ xs a bad, RRd w0 w g xs a bad ∧ s = told xs a bad
section
variable {w0 w w' : World} {g a : Nat} {xs : List Int} {bad : Int} {s : St}
theorem RRd.cells (h : RRd w0 w g xs a bad) : ∃ A n c, w.cell? ⟨g, 0, none⟩ = some (.slice A n c) ∧ w.cell? ⟨g, 1, none⟩ = some (.int .i64 a) ∧ w.cell? ⟨g, 2, none⟩ = some (.int .i64 bad) ∧
    w.frozen? ⟨g, 1, none⟩ = false ∧ w.frozen? ⟨g, 2, none⟩ = false ∧ Kd.C (Kd.int .u8) w A n xs ∧ n ≤ c ∧ n = xs.length ∧ a ≤ n := by
  obtain ⟨h1, h2, A, n, c, h3, h4, h5, h6, h7⟩ := h
  refine ⟨A, n, c, ?_, ?_, ?_, blk_frozen h3 1, blk_frozen h3 2, Kd.C_below h4 h2, h5, h4.1.symm, h7⟩
  · rw [cell_of_row w g 0 _ _ _ h3]; rfl
  · rw [cell_of_row w g 1 _ _ _ h3]; rfl
  · rw [cell_of_row w g 2 _ _ _ h3]; rfl
theorem RRd.drewN (h : RRd w0 w g xs a bad) (m : Nat) : RRd w0 (w.drewN m) g xs a bad := by
  obtain ⟨h1, h2, A, n, c, h3, h4⟩ := h
  exact ⟨h1, pw_below_drewN h2 m, A, n, c, h3, h4⟩
theorem RRd.drew (h : RRd w0 w g xs a bad) : RRd w0 w.drew g xs a bad := by
  obtain ⟨h1, h2, A, n, c, h3, h4⟩ := h
  exact ⟨h1, below_drew h2, A, n, c, h3, h4⟩
theorem RRd.setBad (h : RRd w0 w g xs a bad) (e : Int) : RRd w0 (w.setCell ⟨g, 2, none⟩ (.int .i64 e)) g xs a e := by
  obtain ⟨h1, h2, A, n, c, h3, h4⟩ := h
  exact ⟨h1, below_set h2 h1, A, n, c, blk_put h3 2 _ rfl, h4⟩
theorem RRd.setAt (h : RRd w0 w g xs a bad) (a' : Nat) (ha : a' ≤ xs.length) : RRd w0 (w.setCell ⟨g, 1, none⟩ (.int .i64 a')) g xs a' bad := by
  obtain ⟨h1, h2, A, n, c, h3, h4, h5, h6, h7⟩ := h
  exact ⟨h1, below_set h2 h1, A, n, c, blk_put h3 1 _ rfl, h4, h5, h6, by rw [← h4.1]; exact ha⟩
theorem RRd.keep (h : RRd w0 w g xs a bad) (hb : Below w0.heap.size w0 w') (hg : w'.heap[g]? = w.heap[g]?) : RRd w0 w' g xs a bad := by
  obtain ⟨h1, h2, A, n, c, h3, h4⟩ := h
  exact ⟨h1, hb, A, n, c, hg.trans h3, h4⟩
theorem RRd.bytes (h : RRd w0 w g xs a bad) : Bytes xs := by obtain ⟨_, _, A, n, c, _, _, _, h, _⟩ := h; exact h
theorem RRd.below (h : RRd w0 w g xs a bad) : Below w0.heap.size w0 w := h.2.1
theorem told_ok (hb : Bytes xs) : Ok (told xs a bad) := by
  refine ⟨?_, fun h => if_neg h⟩
  show Bytes (if bad = 0 then xs.drop a else [])
  split
  · exact hb.drop _
  · exact Bytes.nil
theorem RS.ok (h : RS w0 w g s) : Ok s := by
  obtain ⟨xs, a, bad, h, rfl⟩ := h
  exact told_ok h.bytes
end

set_option maxRecDepth 100000 in
set_option maxHeartbeats 400000 in
theorem uint_bad (w0 w : World) (g a : Nat) (xs : List Int) (bad : Int) (h : RRd w0 w g xs a bad) (hb : bad ≠ 0) :
    Calls Try.prog 44 #[.pointer (some ⟨g, 0, none⟩)] w fun x w' => x = .returned (.int .u64 (0 : Nat)) ∧ w = w' := by
  obtain ⟨A, n, c, c0, c1, c2, _⟩ := h.cells
  have hne : (bad != 0) = true := by rw [bne_iff_ne]; exact hb
  clear h hb
  go_enter Try.func44, Try.ntmps44
  go_wp2
  go_ret
  exact ⟨rfl, rfl⟩

set_option maxRecDepth 100000 in
set_option maxHeartbeats 1600000 in
theorem uint_good (w0 w : World) (g a : Nat) (xs : List Int) (h : RRd w0 w g xs a 0) :
    Calls Try.prog 44 #[.pointer (some ⟨g, 0, none⟩)] w fun x w' => x = .returned (.int .u64 ((uvar 0 0 (xs.drop a)).1 : Nat)) ∧
      (∃ a' bad', RRd w0 w' g xs a' bad' ∧ (uvar 0 0 (xs.drop a)).2 = told xs a' bad') ∧ KeepBut w w' g none := by
  obtain ⟨A, n, c, c0, c1, c2, f1, f2, hC, hc, hn, han⟩ := h.cells
  have HC := Aside0.mk hC
  have H := Aside0.mk h
  have hm : n ≤ 9223372036854775807 := hC.2.1
  have HN := Aside0.mk hn
  clear h hC hn
  go_enter Try.func44, Try.ntmps44
  go_wp2
  go_loopw [3, 4] (fun y i w' => ∃ (k v : Nat), a + k ≤ n ∧ k ≤ 9 ∧ i = .int .i64 k ∧ y = .int .u64 v ∧ Aside0 (v < 128 ^ k ∧ uvar 0 0 (xs.drop a) = uvar k v (xs.drop (a + k))) ∧ Aside0 (∃ q, w' = w.drewN q))
    (fun _ i _ => n - (intOf i).toNat)
  case atStart => exact ⟨0, 0, by omega, Nat.zero_le _, rfl, rfl, ⟨by decide, rfl⟩, ⟨0, rfl⟩⟩
  case round =>
    obtain ⟨k, v, hk, hk9, rfl, rfl, HV, HW⟩ := hrel
    obtain ⟨q, rfl⟩ := HW.out
    clear HW
    by_cases hlt : a + k < n
    · have hge : decide ((n : Int) ≤ (a : Int) + (k : Int)) = false := decide_eq_false (by omega)
      have hi0 : (0 : Int) ≤ (a : Int) + (k : Int) := by omega
      have hi1 : (a : Int) + (k : Int) < (n : Int) := by omega
      have hb := H.out.bytes.getD (a + k)
      have hd := Aside0.mk (HV.out.2.trans (congrArg (uvar k v) (drop_cons xs (a + k) (by have := HN.out; omega))))
      obtain ⟨b, o, rfl⟩ := C_plain' HC.out (by omega)
      obtain ⟨ad, e, hcell⟩ := Kd.at_int HC.out (a + k : Nat) (by omega) (by omega)
      cases e
      simp only [Int.toNat_natCast, rd_nat, add_at] at hcell
      generalize xs.getD (a + k) 0 = cc at *
      obtain ⟨m, rfl⟩ := Int.eq_ofNat_of_zero_le hb.1
      have hm256 : m < 256 := by omega
      have hmm : (m : Int) % 128 = ((m % 128 : Nat) : Int) := by omega
      clear hb
      have hvlt := Aside0.mk HV.out.1
      clear HV
      have ht : (a : Int) + (k : Int) = ((a + k : Nat) : Int) := by omega
      by_cases hform : (k = 9 ∧ 1 < m) ∨ (m = 0 ∧ 0 < k)
      · have HF := Aside0.mk (hd.out.trans (uvar_form k v m _ hform))
        clear hd
        by_cases a1 : k = 9 ∧ 1 < m
        · have e9 : ((k : Int) == 9) = true := beq_yes (by omega)
          have e1 : 1 < m := a1.2
          have e0 : ((m : Int) == 0) = false := beq_no (by omega)
          have ek : 0 < k := by omega
          clear hform a1 ht
          go_wp2
          go_quiet (fail)
          go_wp2
          go_quiet (fail)
          go_wp2
          go_ret
          exact ⟨by rw [HF.out]; rfl, ⟨a, 12, (by first | exact (H.out.setBad 12).drewN _ | exact (H.out.drewN _).setBad 12), by rw [HF.out]; rfl⟩, (by first | exact KeepBut.refl _ _ _ | exact keep_drewN (KeepBut.refl _ _ _) _ | exact keep_drewN (KeepBut.set_ (KeepBut.refl _ _ _) _ _) _ | exact KeepBut.set_ (keep_drewN (KeepBut.refl _ _ _) _) _ _ | exact KeepBut.set_ (KeepBut.refl _ _ _) _ _)⟩
        · have e0 : ((m : Int) == 0) = true := beq_yes (by omega)
          have ek : 0 < k := by omega
          clear hform a1 ht
          go_wp2
          go_quiet (fail)
          go_wp2
          go_quiet (fail)
          go_wp2
          go_ret
          exact ⟨by rw [HF.out]; rfl, ⟨a, 12, (by first | exact (H.out.setBad 12).drewN _ | exact (H.out.drewN _).setBad 12), by rw [HF.out]; rfl⟩, (by first | exact KeepBut.refl _ _ _ | exact keep_drewN (KeepBut.refl _ _ _) _ | exact keep_drewN (KeepBut.set_ (KeepBut.refl _ _ _) _ _) _ | exact KeepBut.set_ (keep_drewN (KeepBut.refl _ _ _) _) _ _ | exact KeepBut.set_ (KeepBut.refl _ _ _) _ _)⟩
      · by_cases h128 : m < 128
        · have HF := Aside0.mk (hd.out.trans (uvar_last k v m _ hform h128))
          clear hd
          have hv := or_shift v (m % 128) k hvlt.out (Nat.mod_lt _ (by decide)) hk9 (by omega)
          have hm1 : m % 128 = m := by omega
          rw [hm1] at hv hmm
          clear hm1
          generalize v + m * 128 ^ k = v2 at *
          have hal := Aside0.mk (show a + (k + 1) ≤ xs.length by have := HN.out; omega)
          have e0k : ((m : Int) == 0) = false ∨ k < 1 := by
            by_cases a1 : k < 1
            · exact Or.inr a1
            · exact Or.inl (beq_no (by omega))
          have e91 : ((k : Int) == 9) = false ∨ (((k : Int) == 9) = true ∧ m ≤ 1) := by
            by_cases a1 : k = 9
            · exact Or.inr ⟨beq_yes (by omega), by omega⟩
            · exact Or.inl (beq_no (by omega))
          clear hform ht
          rcases e0k with e0 | ek <;> rcases e91 with e9 | ⟨e9, e1⟩
          all_goals
            go_wp2
            go_quiet (fail)
            go_wp2
            go_quiet (fail)
            go_wp2
            all_goals
              go_ret
              refine ⟨by rw [HF.out]; first | rfl | exact ret_int hv, ⟨a + (k + 1), 0, ?_, by rw [HF.out]; rfl⟩, (by first | exact KeepBut.refl _ _ _ | exact keep_drewN (KeepBut.refl _ _ _) _ | exact keep_drewN (KeepBut.set_ (KeepBut.refl _ _ _) _ _) _ | exact KeepBut.set_ (keep_drewN (KeepBut.refl _ _ _) _) _ _ | exact KeepBut.set_ (KeepBut.refl _ _ _) _ _)⟩
              have hq := fun nq => (H.out.drewN nq).setAt (a + (k + 1)) hal.out
              simp only [show ((a + (k + 1) : Nat) : Int) = (a : Int) + ((k : Int) + 1) from by omega] at hq
              exact hq _
        · have HF := Aside0.mk (hd.out.trans (uvar_more k v m _ hform h128))
          clear hd
          have hk8 : k + 1 ≤ 9 := by omega
          have hv := or_shift v (m % 128) k hvlt.out (Nat.mod_lt _ (by decide)) hk9 (by omega)
          have hlt2 := Aside0.mk (show v + m % 128 * 128 ^ k < 128 ^ (k + 1) by
            have h3 : (m % 128) * 128 ^ k ≤ 127 * 128 ^ k := Nat.mul_le_mul_right _ (by omega)
            have h4 := hvlt.out
            rw [Nat.pow_succ]
            omega)
          generalize v + m % 128 * 128 ^ k = v2 at *
          rw [← hmm] at hv
          clear hmm
          have e9 : ((k : Int) == 9) = false := beq_no (by omega)
          have e0 : ((m : Int) == 0) = false := beq_no (by omega)
          clear hform ht
          go_wp2
          go_quiet (fail)
          go_wp2
          go_quiet (fail)
          go_wp2
          all_goals
            go_roundw
            case rel => exact ⟨k + 1, v2, by omega, hk8, by go_num, rfl, ⟨hlt2.out, HF.out⟩, ⟨_, rfl⟩⟩
            case measure => simp [intOf]; omega
    · have hge : decide ((n : Int) ≤ (a : Int) + (k : Int)) = true := decide_eq_true (by omega)
      have HF := Aside0.mk (show uvar 0 0 (xs.drop a) = (0, [], 10) by rw [HV.out.2, List.drop_eq_nil_of_le (by have := HN.out; omega)]; rfl)
      clear HV
      go_wp2
      go_quiet (fail)
      go_wp2
      go_ret
      exact ⟨by rw [HF.out]; rfl, ⟨a, 10, (by first | exact (H.out.setBad 10).drewN _ | exact (H.out.drewN _).setBad 10), by rw [HF.out]; rfl⟩, (by first | exact KeepBut.refl _ _ _ | exact keep_drewN (KeepBut.refl _ _ _) _ | exact keep_drewN (KeepBut.set_ (KeepBut.refl _ _ _) _ _) _ | exact KeepBut.set_ (keep_drewN (KeepBut.refl _ _ _) _) _ _ | exact KeepBut.set_ (KeepBut.refl _ _ _) _ _)⟩

/-- 'Uint' of the reference's reader. -/
theorem uint_calls (w0 w : World) (g : Nat) (s : St) (h : RS w0 w g s) :
    Calls Try.prog 44 #[.pointer (some ⟨g, 0, none⟩)] w fun x w' => x = .returned (.int .u64 ((rdU s).1 : Nat)) ∧ RS w0 w' g (rdU s).2 ∧ KeepBut w w' g none := by
  obtain ⟨xs, a, bad, h, rfl⟩ := h
  by_cases hb : bad = 0
  · subst hb
    have e : rdU (told xs a 0) = ((uvar 0 0 (xs.drop a)).1, (uvar 0 0 (xs.drop a)).2) := rfl
    rw [e]
    exact (uint_good w0 w g a xs h).mono fun x w' ⟨h1, ⟨a', b', h2, h3⟩, h4⟩ => ⟨h1, ⟨xs, a', b', h2, h3⟩, h4⟩
  · have e : rdU (told xs a bad) = (0, told xs a bad) := by unfold rdU; rw [if_pos (show (told xs a bad).2 ≠ 0 from hb)]
    rw [e]
    exact (uint_bad w0 w g a xs bad h hb).mono fun x w' ⟨h1, h2⟩ => ⟨h1, h2 ▸ ⟨xs, a, bad, h, rfl⟩, h2 ▸ KeepBut.refl _ _ _⟩
end Go.Proofs.Ytomgfhapmhagnaa.RefReader
