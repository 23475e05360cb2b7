/- The reader's methods. -/
import Derived.Test.YtomgfhapmhagnaaRead
import Derived.Test.YtomgfhapmhagnaaBasA
namespace Go.Proofs.Ytomgfhapmhagnaa.Reader
set_option linter.unusedVariables false
set_option linter.unusedSimpArgs false
open Go.RowKit Go.Proofs.YtomgfhapmhagnaaW.PrintWords Go.Proofs.YtomgfhapmhagnaaW.PrintLast Go.Proofs.YtomgfhapmhagnaaW.PrintMore Go.Proofs.Ytomgfhapmhagnaa.Lib Go.Proofs.Ytomgfhapmhagnaa.Read

/-- A reader lies in block g; what it has left are bytes that were there in the world w0. -/
def Rd (w0 w : World) (g : Nat) (s : St) : Prop :=
  w0.heap.size ≤ g ∧ Below w0.heap.size w0 w ∧ ∃ A n c, w.heap[g]? = some (.cells #[.slice A n c, .int .i64 s.2] 84 (0, 0)) ∧ Kd.C (Kd.int .u8) w0 A n s.1 ∧ n ≤ c ∧ Ok s
section
variable {w0 w w' : World} {g : Nat} {s s' : St}
theorem Rd.ok (h : Rd w0 w g s) : Ok s := by obtain ⟨_, _, A, n, c, _, _, _, h⟩ := h; exact h
theorem Rd.lt (h : Rd w0 w g s) : g < w.heap.size := by obtain ⟨_, _, A, n, c, h, _⟩ := h; exact blk_lt h
/-- Its cells. -/
theorem Rd.cells (h : Rd w0 w g s) : ∃ A n c, w.cell? ⟨g, 0, none⟩ = some (.slice A n c) ∧ w.cell? ⟨g, 1, none⟩ = some (.int .i64 s.2) ∧ w.frozen? ⟨g, 0, none⟩ = false ∧ w.frozen? ⟨g, 1, none⟩ = false ∧
    Kd.C (Kd.int .u8) w A n s.1 ∧ n ≤ c ∧ n = s.1.length ∧ Kd.C (Kd.int .u8) w0 A n s.1 := by
  obtain ⟨h1, h2, A, n, c, h3, h4, h5, h6⟩ := h
  refine ⟨A, n, c, ?_, ?_, blk_frozen h3 0, blk_frozen h3 1, Kd.C_below h4 h2, h5, h4.1.symm, h4⟩
  · rw [cell_of_row w g 0 _ _ _ h3]; rfl
  · rw [cell_of_row w g 1 _ _ _ h3]; rfl
theorem Rd.drewN (h : Rd w0 w g s) (m : Nat) : Rd w0 (w.drewN m) g s := by
  obtain ⟨h1, h2, A, n, c, h3, h4⟩ := h
  exact ⟨h1, pw_below_drewN h2 m, A, n, c, h3, h4⟩
/-- Both cells are written. -/
theorem Rd.set2 (h : Rd w0 w g s) {A : Option Addr} {n c : Nat} (hC : Kd.C (Kd.int .u8) w0 A n s'.1) (hc : n ≤ c) (hok : Ok s') :
    Rd w0 ((w.setCell ⟨g, 1, none⟩ (.int .i64 s'.2)).setCell ⟨g, 0, none⟩ (.slice A n c)) g s' := by
  obtain ⟨h1, h2, A', n', c', h3, h4⟩ := h
  refine ⟨h1, below_set (below_set h2 h1) h1, A, n, c, ?_, hC, hc, hok⟩
  exact blk_put (blk_put h3 1 _ rfl) 0 _ rfl
/-- What is left is written. -/
theorem Rd.set0 (h : Rd w0 w g s) {l : List Int} {A : Option Addr} {n c : Nat} (hC : Kd.C (Kd.int .u8) w0 A n l) (hc : n ≤ c) (hok : Ok (l, s.2)) :
    Rd w0 (w.setCell ⟨g, 0, none⟩ (.slice A n c)) g (l, s.2) := by
  obtain ⟨h1, h2, A', n', c', h3, h4⟩ := h
  refine ⟨h1, below_set h2 h1, A, n, c, ?_, hC, hc, hok⟩
  exact blk_put h3 0 _ rfl
/-- Whatever leaves the block alone. -/
theorem Rd.keep (h : Rd w0 w g s) (hb : Below w0.heap.size w0 w') (hg : w'.heap[g]? = w.heap[g]?) : Rd w0 w' g s := by
  obtain ⟨h1, h2, A, n, c, h3, h4⟩ := h
  exact ⟨h1, hb, A, n, c, hg.trans h3, h4⟩
theorem Rd.below (h : Rd w0 w g s) : Below w0.heap.size w0 w := h.2.1
end

set_option maxRecDepth 100000 in
set_option maxHeartbeats 400000 in
theorem fail_calls (w0 w : World) (g : Nat) (s : St) (e : Int) (h : Rd w0 w g s) (he : e ≠ 0) :
    Calls Try.prog 55 #[.pointer (some ⟨g, 0, none⟩), .int .i64 e] w fun x w' => x = .returned (.tuple #[]) ∧ Rd w0 w' g ([], e) ∧ KeepBut w w' g none := by
  obtain ⟨A, n, c, c0, c1, f0, f1, _⟩ := h.cells
  have H := Aside0.mk h
  have HR := Aside0.mk (h.set2 (s' := ([], e)) (A := none) (n := 0) (c := 0) (Kd.C_nil _ _) (Nat.le_refl _) ⟨Bytes.nil, fun _ => rfl⟩)
  have HK := Aside0.mk (KeepBut.set_ (KeepBut.set_ (KeepBut.refl w g none) 1 (.int .i64 e)) 0 (.slice none 0 0))
  clear h
  go_enter Try.func55, Try.ntmps55
  go_wp2
  go_end0
  exact ⟨rfl, HR.out, HK.out⟩

theorem drop_cons (xs : List Int) (k : Nat) (h : k < xs.length) : xs.drop k = xs.getD k 0 :: xs.drop (k + 1) := by
  rw [List.drop_eq_getElem_cons h, List.getD_eq_getElem?_getD, List.getElem?_eq_getElem h]; rfl

set_option maxRecDepth 100000 in
set_option maxHeartbeats 400000 in
theorem uint_bad (w0 w : World) (g : Nat) (s : St) (h : Rd w0 w g s) (hb : s.2 ≠ 0) :
    Calls Try.prog 39 #[.pointer (some ⟨g, 0, none⟩)] w fun x w' => x = .returned (.int .u64 (0 : Nat)) ∧ w = w' := by
  obtain ⟨A, n, c, c0, c1, f0, f1, _⟩ := h.cells
  have hne : (s.2 != 0) = true := by rw [bne_iff_ne]; exact hb
  clear h hb
  go_enter Try.func39, Try.ntmps39
  go_wp2
  go_ret
  exact ⟨rfl, rfl⟩

set_option maxRecDepth 100000 in
set_option maxHeartbeats 400000 in
theorem uint_good (w0 w : World) (g : Nat) (xs : List Int) (h : Rd w0 w g (xs, 0)) :
    Calls Try.prog 39 #[.pointer (some ⟨g, 0, none⟩)] w fun x w' => x = .returned (.int .u64 ((uvar 0 0 xs).1 : Nat)) ∧ Rd w0 w' g (uvar 0 0 xs).2 ∧ KeepBut w w' g none := by
  obtain ⟨A, n, c, c0, c1, f0, f1, hC, hc, hn, hC0⟩ := h.cells
  have HC := Aside0.mk hC
  have HC0 := Aside0.mk hC0
  have H := Aside0.mk h
  have hm : n ≤ 9223372036854775807 := hC.2.1
  have HN := Aside0.mk hn
  clear h hC hC0 hn
  replace c1 : w.cell? ⟨g, 1, none⟩ = some (.int .i64 0) := c1
  go_enter Try.func39, Try.ntmps39
  go_wp2_with fail
  go_loop [3, 20] (fun y i => ∃ (k v : Nat), k ≤ n ∧ k ≤ 9 ∧ i = .int .i64 k ∧ y = .int .u64 v ∧ Aside0 (v < 128 ^ k ∧ uvar 0 0 xs = uvar k v (xs.drop k)))
    (fun _ i => n - (intOf i).toNat)
  case atStart => exact ⟨0, 0, Nat.zero_le _, Nat.zero_le _, rfl, rfl, ⟨by decide, rfl⟩⟩
  case round =>
    obtain ⟨k, v, hk, hk9, rfl, rfl, HV⟩ := hrel
    by_cases hlt : k < n
    · have hb := H.out.ok.1.getD k
      have hd := Aside0.mk (HV.out.2.trans (congrArg (uvar k v) (drop_cons xs k (by have := HN.out; omega))))
      obtain ⟨b, o, rfl⟩ := C_plain' HC.out (by omega)
      obtain ⟨ad, e, hcell⟩ := Kd.at_int HC.out k (by omega) (by omega)
      cases e
      simp only [Int.toNat_natCast, rd_nat, add_at] at hcell
      replace hb : 0 ≤ xs.getD k 0 ∧ xs.getD k 0 < 256 := hb
      generalize xs.getD k 0 = cc at *
      obtain ⟨m, rfl⟩ := Int.eq_ofNat_of_zero_le hb.1
      have hm256 : m < 256 := by omega
      clear hb
      have hvlt := Aside0.mk HV.out.1
      clear HV
      by_cases hform : (k = 9 ∧ 1 < m) ∨ (m = 0 ∧ 0 < k)
      · have HF := Aside0.mk (hd.out.trans (uvar_form k v m _ hform))
        clear hd
        by_cases a1 : k = 9 ∧ 1 < m
        · have e9 : ((k : Int) == 9) = true := beq_yes (by omega)
          have e1 : decide ((1 : Int) < (m : Int)) = true := decide_eq_true (by omega)
          clear hform a1
          go_wp2_with fail
          refine (fail_calls w0 w g (xs, 0) 12 H.out (by decide)).mono ?_
          rintro x w1 ⟨rfl, hr, hk⟩
          have HR1 := Aside0.mk hr
          have HK1 := Aside0.mk hk
          clear hr hk
          go_wp2_with fail
          go_ret
          exact ⟨by rw [HF.out]; rfl, by rw [HF.out]; exact HR1.out, HK1.out⟩
        · have e0 : ((m : Int) == 0) = true := beq_yes (by omega)
          have ek : 0 < k := by omega
          have e1 : m ≤ 1 := by omega
          by_cases a2 : k = 9
          all_goals
            first
              | have e9 : ((k : Int) == 9) = true := beq_yes (by omega)
              | have e9 : ((k : Int) == 9) = false := beq_no (by omega)
            clear hform a1 a2
            go_wp2_with fail
            refine (fail_calls w0 w g (xs, 0) 12 H.out (by decide)).mono ?_
            rintro x w1 ⟨rfl, hr, hk⟩
            have HR1 := Aside0.mk hr
            have HK1 := Aside0.mk hk
            clear hr hk
            go_wp2_with fail
            go_ret
            exact ⟨by rw [HF.out]; rfl, by rw [HF.out]; exact HR1.out, HK1.out⟩
      · have e91 : (((k : Int) == 9) = true ∧ m ≤ 1) ∨ ((k : Int) == 9) = false := by
          by_cases a1 : k = 9
          · exact Or.inl ⟨beq_yes (by omega), by omega⟩
          · exact Or.inr (beq_no (by omega))
        have e0k : (((m : Int) == 0) = true ∧ k < 1) ∨ ((m : Int) == 0) = false := by
          by_cases a1 : m = 0
          · exact Or.inl ⟨beq_yes (by omega), by omega⟩
          · exact Or.inr (beq_no (by omega))
        by_cases h128 : m < 128
        · have HF := Aside0.mk (hd.out.trans (uvar_last k v m _ hform h128))
          clear hd
          have hv := or_shift v m k hvlt.out h128 hk9 (by omega)
          generalize v + m * 128 ^ k = v2 at *
          by_cases hck : c = k + 1
          · have HQ := Aside0.mk (H.out.set0 (l := xs.drop (k + 1)) (A := some ⟨b, o, none⟩) (n := 0) (c := 0) (by
              have e : xs.drop (k + 1) = [] := List.drop_eq_nil_of_le (by have := HN.out; omega)
              rw [e]; exact ⟨rfl, by decide, fun h => by omega⟩) (Nat.le_refl _) ⟨H.out.ok.1.drop _, fun h => absurd rfl h⟩)
            have HK := Aside0.mk (KeepBut.set_ (KeepBut.refl w g none) 0 (.slice (some ⟨b, o, none⟩) 0 0))
            have hnk : n = k + 1 := by omega
            subst hnk
            subst hck
            rcases e91 with ⟨e9, e1⟩ | e9 <;> rcases e0k with ⟨e0, ek⟩ | e0
            all_goals
              clear hform
              go_wp2_with fail
              go_ret
              exact ⟨by rw [HF.out]; first | rfl | exact ret_int hv, by rw [HF.out]; exact HQ.out, HK.out⟩
          · have HQ := Aside0.mk (H.out.set0 (l := xs.drop (k + 1)) (A := some ⟨b, o + (k + 1), none⟩) (n := n - (k + 1)) (c := c - (k + 1)) (by
              have hl : xs.length = n := HN.out.symm
              have h1 := C_drop_at (xs := xs) (lo := k + 1) (by rw [hl]; exact HC0.out) (by omega) (show xs.length ≤ c by omega) hck
              rw [List.length_drop, hl] at h1
              exact h1) (by omega) ⟨H.out.ok.1.drop _, fun h => absurd rfl h⟩)
            have HK := Aside0.mk (KeepBut.set_ (KeepBut.refl w g none) 0 (.slice (some ⟨b, o + (k + 1), none⟩) (n - (k + 1)) (c - (k + 1))))
            rcases e91 with ⟨e9, e1⟩ | e9 <;> rcases e0k with ⟨e0, ek⟩ | e0
            all_goals
              clear hform
              go_wp2_with fail
              go_ret
              exact ⟨by rw [HF.out]; first | rfl | exact ret_int hv, by rw [HF.out]; exact HQ.out, HK.out⟩
        · have HF := Aside0.mk (hd.out.trans (uvar_more k v m _ hform h128))
          clear hd
          have hk8 : k + 1 ≤ 9 := by omega
          have hv := or_shift v (m % 128) k hvlt.out (Nat.mod_lt _ (by decide)) hk9 (by omega)
          have h127 := and127 m hm256
          have hmod : ((m % 128 : Nat) : Int) = (m : Int) % 128 := by omega
          rw [hmod] at hv h127
          clear hmod
          have hlt2 := Aside0.mk (show v + m % 128 * 128 ^ k < 128 ^ (k + 1) by
            have h3 : (m % 128) * 128 ^ k ≤ 127 * 128 ^ k := Nat.mul_le_mul_right _ (by omega)
            have h4 := hvlt.out
            rw [Nat.pow_succ]
            omega)
          generalize v + m % 128 * 128 ^ k = v2 at *
          have e9 : ((k : Int) == 9) = false := beq_no (by omega)
          have e0 : ((m : Int) == 0) = false := beq_no (by omega)
          clear hform e91 e0k
          go_wp2_with fail
          go_round
          case rel => exact ⟨k + 1, v2, by omega, hk8, by go_num, rfl, ⟨hlt2.out, HF.out⟩⟩
          case measure => simp [intOf]; omega
    · have hkn : k = n := by omega
      subst hkn
      have HF := Aside0.mk (show uvar 0 0 xs = (0, [], 10) by rw [HV.out.2, List.drop_eq_nil_of_le (by have := HN.out; omega)]; rfl)
      clear HV
      go_wp2_with fail
      refine (fail_calls w0 w g (xs, 0) 10 H.out (by decide)).mono ?_
      rintro x w1 ⟨rfl, hr, hk⟩
      have HR1 := Aside0.mk hr
      have HK1 := Aside0.mk hk
      clear hr hk
      go_wp2_with fail
      go_ret
      exact ⟨by rw [HF.out]; rfl, by rw [HF.out]; exact HR1.out, HK1.out⟩

/-- 'Uint' of a reader. -/
theorem uint_calls (w0 w : World) (g : Nat) (s : St) (h : Rd w0 w g s) :
    Calls Try.prog 39 #[.pointer (some ⟨g, 0, none⟩)] w fun x w' => x = .returned (.int .u64 ((rdU s).1 : Nat)) ∧ Rd w0 w' g (rdU s).2 ∧ KeepBut w w' g none := by
  by_cases hb : s.2 = 0
  · have e : rdU s = ((uvar 0 0 s.1).1, (uvar 0 0 s.1).2) := by unfold rdU; rw [if_neg (by simpa using hb)]
    rw [e]
    obtain ⟨l, b⟩ := s
    obtain rfl : b = 0 := hb
    exact uint_good w0 w g l h
  · have e : rdU s = (0, s) := by unfold rdU; rw [if_pos hb]
    rw [e]
    exact (uint_bad w0 w g s h hb).mono fun x w' ⟨h1, h2⟩ => ⟨h1, h2 ▸ h, h2 ▸ KeepBut.refl _ _ _⟩
end Go.Proofs.Ytomgfhapmhagnaa.Reader
