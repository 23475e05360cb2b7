/- Dictionaries: Id, Begin: what they answer. -/
import Derived.Test.YtomgfhapmhagnaaDict
namespace Go.Proofs.Ytomgfhapmhagnaa.Txt
set_option linter.unusedVariables false
set_option linter.unusedSimpArgs false
open Go.RowKit Go.Proofs.YtomgfhapmhagnaaW.PrintWords Go.Proofs.YtomgfhapmhagnaaW.PrintLast Go.Proofs.YtomgfhapmhagnaaW.PrintMore Go.Proofs.Ytomgfhapmhagnaa.Lib

set_option maxRecDepth 100000 in
set_option maxHeartbeats 400000 in
theorem id_none (s : ByteArray) (w : World) :
    Calls Try.prog 13 #[.pointer none, .string s] w fun e w' => e = .returned (.tuple #[.int .i64 0, .bool false]) ∧ Below w.heap.size w w' := by
  go_enter Try.func13, Try.ntmps13
  go_wp2_with fail
  refine (from_none s w).mono ?_
  rintro e w1 ⟨rfl, hb⟩
  have HB := Aside0.mk hb
  clear hb
  go_wp2_with fail
  refine (text_none 0 w1).mono ?_
  rintro e w2 ⟨rfl, rfl⟩
  go_wp2_with fail
  go_ret2
  exact ⟨rfl, HB.out⟩
set_option maxRecDepth 100000 in
set_option maxHeartbeats 800000 in
theorem id_calls (w : World) (g : Nat) (l : List T) (s : ByteArray) (hs : DictAt w g l) (hr : l.Pairwise (· < ·)) (hl : l.length ≤ 4611686018427387904) :
    Calls Try.prog 13 #[.pointer (some ⟨g, 0, none⟩), .string s] w fun e w' => e = .returned (.tuple #[.int .i64 (if has l s.data.toList then fromOf l s.data.toList else 0 : Nat), .bool (has l s.data.toList)]) ∧ Below w.heap.size w w' := by
  have HS := Aside0.mk hs
  have HF := Aside0.mk (from_calls w g l s hs hr hl)
  have hfl := fromOf_le l s.data.toList
  clear hs hr
  by_cases hlt : fromOf l s.data.toList < l.length
  · by_cases heq : l.getD (fromOf l s.data.toList) [] = s.data.toList
    · have hh : has l s.data.toList = true := decide_eq_true ⟨hlt, heq⟩
      rw [hh, if_pos rfl]
      have HT := fun (w' : World) (hb : DictAt w' g l) => text_calls w' g l hb (fromOf l s.data.toList) hlt
      rw [heq, bs_of] at HT
      have HT := Aside0.mk HT
      clear hh heq hlt hfl
      (obtain ⟨k, hgen⟩ : ∃ k, fromOf l s.data.toList = k := ⟨_, rfl⟩; try rw [hgen] at HF HT; try rw [hgen]; have HG_k := Aside0.mk hgen; clear hgen)
      go_enter Try.func13, Try.ntmps13
      go_wp2_with fail
      refine HF.out.mono ?_
      rintro e w1 ⟨rfl, hb⟩
      have HB := Aside0.mk hb
      have HS1 := Aside0.mk (HS.out.below hb)
      clear hb
      go_wp2_with fail
      refine (HT.out w1 HS1.out).mono ?_
      rintro e w2 ⟨rfl, rfl⟩
      go_wp2_with fail
      go_ret2
      exact ⟨rfl, HB.out⟩
    · have hh : has l s.data.toList = false := decide_eq_false (fun h => heq h.2)
      rw [hh]
      simp only [Bool.false_eq_true, if_false]
      have HT := Aside0.mk (fun (w' : World) (hb : DictAt w' g l) => text_calls w' g l hb (fromOf l s.data.toList) hlt)
      have hne : ((bs (l.getD (fromOf l s.data.toList) [])).toList == s.toList) = false := by
        rw [beq_eq_false_iff_ne, ByteArray.toList_eq, ByteArray.toList_eq, bs_data]; exact heq
      clear hh heq hlt hfl
      generalize bs (l.getD (fromOf l s.data.toList) []) = a at *
      generalize fromOf l s.data.toList = k at *
      go_enter Try.func13, Try.ntmps13
      go_wp2_with fail
      refine HF.out.mono ?_
      rintro e w1 ⟨rfl, hb⟩
      have HB := Aside0.mk hb
      have HS1 := Aside0.mk (HS.out.below hb)
      clear hb
      go_wp2_with fail
      refine (HT.out w1 HS1.out).mono ?_
      rintro e w2 ⟨rfl, rfl⟩
      go_wp2_with fail
      go_ret2
      exact ⟨rfl, HB.out⟩
  · have hh : has l s.data.toList = false := decide_eq_false (fun h => hlt h.1)
    rw [hh]
    simp only [Bool.false_eq_true, if_false]
    have HT := Aside0.mk (fun (w' : World) (hb : DictAt w' g l) => text_no w' g l hb (fromOf l s.data.toList : Nat) (.inr (by omega)))
    clear hh hlt hfl
    generalize fromOf l s.data.toList = k at *
    go_enter Try.func13, Try.ntmps13
    go_wp2_with fail
    refine HF.out.mono ?_
    rintro e w1 ⟨rfl, hb⟩
    have HB := Aside0.mk hb
    have HS1 := Aside0.mk (HS.out.below hb)
    clear hb
    go_wp2_with fail
    refine (HT.out w1 HS1.out).mono ?_
    rintro e w2 ⟨rfl, rfl⟩
    go_wp2_with fail
    go_ret2
    exact ⟨rfl, HB.out⟩

/-! ### Begin -/
theorem hasPrefix_is (s p : T) : Go.Lib.hasPrefix s p = begins s p := rfl
/-- how many of the texts from a place on begin so -/
def runOf (l : List T) (p : T) : Nat := ((l.drop (fromOf l p)).takeWhile fun t => begins t p).length
set_option maxRecDepth 100000 in
set_option maxHeartbeats 400000 in
theorem begin_word (w : World) (p q r g lo : Nat) (l : List T) (s : ByteArray) (hp : w.cell? ⟨p, 0, none⟩ = some (.pointer (some ⟨g, 0, none⟩))) (hr : w.cell? ⟨r, 0, none⟩ = some (.int .i64 lo)) (hq : w.cell? ⟨q, 0, none⟩ = some (.string s)) (hs : DictAt w g l) (i : Nat) (h : lo + i < l.length) (hl : l.length ≤ 4611686018427387904) :
    Calls Try.prog 31 #[.int .i64 i, .pointer (some ⟨p, 0, none⟩), .pointer (some ⟨r, 0, none⟩), .pointer (some ⟨q, 0, none⟩)] w fun e w' => e = .returned (.bool (!begins (l.getD (lo + i) []) s.data.toList)) ∧ Drawn0 w w' := by
  obtain ⟨A, c, c0, hC, hc⟩ := hs
  obtain ⟨ad, e, hcell⟩ := at_text hC (lo + i) h
  subst e
  have hi : ((lo + i : Nat) : Int) < (l.length : Int) := by omega
  obtain ⟨j, hj⟩ : ∃ j, j = lo + i := ⟨_, rfl⟩
  rw [← hj] at hcell hi ⊢
  have hsum : IntKind.i64.wrap ((lo : Int) + (i : Int)) = (j : Int) := by rw [IntKind.wrap_i64]; omega
  have hsum2 : wrap64 ((lo : Int) + (i : Int)) = (j : Int) := by rw [IntWalk.wrap64_in _ (by omega)]; omega
  have hj0 : (0 : Int) ≤ (j : Int) := Int.natCast_nonneg j
  have HP := Aside0.mk (fun w => Try.strings_HasPrefix (bs (l.getD j [])) s w)
  rw [bs_data, hasPrefix_is] at HP
  clear hC hj h
  generalize begins (l.getD j []) s.data.toList = b at *
  generalize bs (l.getD j []) = t at *
  go_enter Try.func31, Try.ntmps31
  go_wp2_with fail
  refine start_ (n := 13) (S := fun w' => w'.cell? ⟨p, 0, none⟩ = some (.pointer (some ⟨g, 0, none⟩)) ∧ w'.cell? ⟨g, 0, none⟩ = some (.slice (some ad) l.length c) ∧ w'.cell? ⟨r, 0, none⟩ = some (.int .i64 lo) ∧ w'.cell? (ad.add j) = some (.string t) ∧ w'.cell? ⟨q, 0, none⟩ = some (.string s)) (ds := []) #[false, false, false, false, false, false, false, false, false, false, false, false, false] (by kernel_rfl) rfl rfl ⟨hp, c0, hr, hcell, hq⟩ (fun hHeld => ?_)
  refine pure_ (i := 5) (N := some 11) (v := ?_) (a' := ?_) #[false, false, false, false, false, true, false, false, false, false, false, false, false] rfl rfl (by kernel_rfl) (fun _ _ _ h => h) (Or.inl ⟨by rfl, ?_⟩) ?_ ?_
  rotate_left
  · intro w'
    go_simp
    with_reducible rfl
  rotate_left
  · simp only [Act.put, List.setIfInBounds_toArray, List.set_cons_zero, List.set_cons_succ, i64_w, i32_w]
    rfl
  refine take_ (i := 0) (N := some 6) (v := ?_) (a' := ?_) #[true, false, false, false, false, true, false, false, false, false, false, false, false] rfl rfl (by kernel_rfl) (fun _ _ _ h => h) (Or.inl ⟨by rfl, ?_⟩) hHeld ?_ ?_
  rotate_left
  · rintro w' ⟨s0, s1, s2, s3, s4⟩
    go_simp
    with_reducible rfl
  rotate_left
  · simp only [Act.put, List.setIfInBounds_toArray, List.set_cons_zero, List.set_cons_succ, i64_w, i32_w]
    rfl
  refine pure_ (i := 1) (N := some 7) (v := ?_) (a' := ?_) #[true, true, false, false, false, true, false, false, false, false, false, false, false] rfl rfl (by kernel_rfl) (fun _ _ _ h => h) (Or.inl ⟨by rfl, ?_⟩) ?_ ?_
  rotate_left
  · intro w'
    go_simp
    with_reducible rfl
  rotate_left
  · simp only [Act.put, List.setIfInBounds_toArray, List.set_cons_zero, List.set_cons_succ, i64_w, i32_w]
    rfl
  refine pure_ (i := 2) (N := some 8) (v := ?_) (a' := ?_) #[true, true, true, false, false, true, false, false, false, false, false, false, false] rfl rfl (by kernel_rfl) (fun _ _ _ h => h) (Or.inl ⟨by rfl, ?_⟩) ?_ ?_
  rotate_left
  · intro w'
    go_simp
    with_reducible rfl
  rotate_left
  · simp only [Act.put, List.setIfInBounds_toArray, List.set_cons_zero, List.set_cons_succ, i64_w, i32_w]
    rfl
  refine take_ (i := 3) (N := some 9) (v := ?_) (a' := ?_) #[true, true, true, true, false, true, false, false, false, false, false, false, false] rfl rfl (by kernel_rfl) (fun _ _ _ h => h) (Or.inl ⟨by rfl, ?_⟩) hHeld ?_ ?_
  rotate_left
  · rintro w' ⟨s0, s1, s2, s3, s4⟩
    go_simp
    with_reducible rfl
  rotate_left
  · simp only [Act.put, List.setIfInBounds_toArray, List.set_cons_zero, List.set_cons_succ, i64_w, i32_w]
    rfl
  refine take_ (i := 4) (N := some 10) (v := ?_) (a' := ?_) #[true, true, true, true, true, true, false, false, false, false, false, false, false] rfl rfl (by kernel_rfl) (fun _ _ _ h => h) (Or.inl ⟨by rfl, ?_⟩) hHeld ?_ ?_
  rotate_left
  · rintro w' ⟨s0, s1, s2, s3, s4⟩
    go_simp
    with_reducible rfl
  rotate_left
  · simp only [Act.put, List.setIfInBounds_toArray, List.set_cons_zero, List.set_cons_succ, i64_w, i32_w]
    rfl
  refine pure_ (i := 6) (N := some 12) (v := ?_) (a' := ?_) #[true, true, true, true, true, true, true, false, false, false, false, false, false] rfl rfl (by kernel_rfl) (fun _ _ _ h => h) (Or.inl ⟨by rfl, ?_⟩) ?_ ?_
  rotate_left
  · intro w'
    go_simp
    with_reducible rfl
  rotate_left
  · simp only [Act.put, List.setIfInBounds_toArray, List.set_cons_zero, List.set_cons_succ, i64_w, i32_w]
    rfl
  refine pure_ (i := 7) (N := some 13) (v := ?_) (a' := ?_) #[true, true, true, true, true, true, true, true, false, false, false, false, false] rfl rfl (by kernel_rfl) (fun _ _ _ h => h) (Or.inl ⟨by rfl, ?_⟩) ?_ ?_
  rotate_left
  · intro w'
    go_simp
    with_reducible rfl
  rotate_left
  · simp only [Act.put, List.setIfInBounds_toArray, List.set_cons_zero, List.set_cons_succ, i64_w, i32_w]
    rfl
  refine take_ (i := 8) (N := some 14) (v := ?_) (a' := ?_) #[true, true, true, true, true, true, true, true, true, false, false, false, false] rfl rfl (by kernel_rfl) (fun _ _ _ h => h) (Or.inl ⟨by rfl, ?_⟩) hHeld ?_ ?_
  rotate_left
  · rintro w' ⟨s0, s1, s2, s3, s4⟩
    go_simp
    with_reducible rfl
  rotate_left
  · simp only [Act.put, List.setIfInBounds_toArray, List.set_cons_zero, List.set_cons_succ, i64_w, i32_w]
    rfl
  refine take_ (i := 9) (N := some 15) (v := ?_) (a' := ?_) #[true, true, true, true, true, true, true, true, true, true, false, false, false] rfl rfl (by kernel_rfl) (fun _ _ _ h => h) (Or.inl ⟨by rfl, ?_⟩) hHeld ?_ ?_
  rotate_left
  · rintro w' ⟨s0, s1, s2, s3, s4⟩
    go_simp
    with_reducible rfl
  rotate_left
  · simp only [Act.put, List.setIfInBounds_toArray, List.set_cons_zero, List.set_cons_succ, i64_w, i32_w]
    rfl
  refine one_ (i := 10) (N := some 16) #[true, true, true, true, true, true, true, true, true, true, true, false, false] rfl rfl (by kernel_rfl) (by decide) (fun K hK => ?_)
  refine goes_ Try.func32 (by kernel_rfl) rfl #[.string t, .string s] (by rfl) rfl rfl (by simp only [List.map_toArray, List.map_cons, List.map_nil]; rfl) ?_
  with_reducible refine (HP.out _).mono ?_
  rintro e w3 ⟨rfl, rfl⟩
  refine ⟨_, rfl, ?_⟩
  refine hK.out _ _ ⟨hHeld.1, hHeld.2.1, hHeld.2.2.1, hHeld.2.2.2.1, hHeld.2.2.2.2⟩ (fun hHeld => ?_)
  clear hK K
  refine norm_ (a' := ?_) ?_ ?_
  rotate_left
  · show Act.put _ (some 16) _ = _
    simp only [Act.put, List.setIfInBounds_toArray, List.set_cons_zero, List.set_cons_succ, i64_w, i32_w]
    rfl
  refine pure_ (i := 11) (N := some 17) (v := ?_) (a' := ?_) #[true, true, true, true, true, true, true, true, true, true, true, true, false] rfl rfl (by kernel_rfl) (fun _ _ _ h => h) (Or.inl ⟨by rfl, ?_⟩) ?_ ?_
  rotate_left
  · intro w'
    go_simp
    with_reducible rfl
  rotate_left
  · simp only [Act.put, List.setIfInBounds_toArray, List.set_cons_zero, List.set_cons_succ, i64_w, i32_w]
    rfl
  refine pure_ (i := 12) (N := some 5) (v := ?_) (a' := ?_) #[true, true, true, true, true, true, true, true, true, true, true, true, true] rfl rfl (by kernel_rfl) (fun _ _ _ h => h) (Or.inl ⟨by rfl, ?_⟩) ?_ ?_
  rotate_left
  · intro w'
    go_simp
    with_reducible rfl
  rotate_left
  · simp only [Act.put, List.setIfInBounds_toArray, List.set_cons_zero, List.set_cons_succ, i64_w, i32_w]
    rfl
  refine done_ (by kernel_rfl) ?_
  go_wp2_with fail
  go_ret
  exact ⟨rfl, ⟨1, rfl⟩⟩

theorem run_at (p : T) : ∀ (l : List T) (i : Nat), i < (l.takeWhile fun t => begins t p).length → begins (l.getD i []) p = true
  | [], i, h => by simp at h
  | x :: l, i, h => by
    rw [List.takeWhile_cons] at h
    split at h
    · rename_i hx
      rcases i with _ | i
      · exact hx
      · exact run_at p l i (by simpa using h)
    · simp at h
theorem run_not (p : T) : ∀ (l : List T), (l.takeWhile fun t => begins t p).length < l.length → begins (l.getD (l.takeWhile fun t => begins t p).length []) p = false
  | [], h => by simp at h
  | x :: l, h => by
    rw [List.takeWhile_cons] at h ⊢
    by_cases hx : begins x p = true
    · rw [if_pos hx] at h ⊢
      simpa using run_not p l (by simpa using h)
    · rw [if_neg hx]; simpa using hx
theorem run_is (l : List T) (p : T) (k : Nat) (h1 : fromOf l p + k ≤ l.length) (h2 : ∀ i, i < k → begins (l.getD (fromOf l p + i) []) p = true) (h3 : fromOf l p + k < l.length → begins (l.getD (fromOf l p + k) []) p = false) : k = runOf l p := by
  have hd : ∀ i, (l.drop (fromOf l p)).getD i [] = l.getD (fromOf l p + i) [] := fun i => by
    rw [List.getD_eq_getElem?_getD, List.getElem?_drop, List.getD_eq_getElem?_getD]
  have hlen : (l.drop (fromOf l p)).length = l.length - fromOf l p := List.length_drop
  unfold runOf
  have hle : ((l.drop (fromOf l p)).takeWhile fun t => begins t p).length ≤ (l.drop (fromOf l p)).length := (List.takeWhile_prefix _).length_le
  rcases Nat.lt_trichotomy k ((l.drop (fromOf l p)).takeWhile fun t => begins t p).length with h | h | h
  · have e1 := run_at p _ k h
    rw [hd, h3 (by omega)] at e1
    cases e1
  · exact h
  · have e1 := run_not p (l.drop (fromOf l p)) (by omega)
    rw [hd, h2 _ h] at e1
    cases e1
theorem runOf_le (l : List T) (p : T) : fromOf l p + runOf l p ≤ l.length := by
  have h1 : ((l.drop (fromOf l p)).takeWhile fun t => begins t p).length ≤ (l.drop (fromOf l p)).length := (List.takeWhile_prefix _).length_le
  have h2 := fromOf_le l p
  rw [List.length_drop] at h1
  unfold runOf
  omega
theorem mono_run {l : List T} (h : l.Pairwise (· < ·)) (p : T) (i j : Nat) (hij : i ≤ j) (hj : fromOf l p + j < l.length) (hp : (!begins (l.getD (fromOf l p + i) []) p) = true) : (!begins (l.getD (fromOf l p + j) []) p) = true := by
  cases hb : begins (l.getD (fromOf l p + j) []) p with
  | false => rfl
  | true =>
    rw [begins_iff] at hb
    have h1 : p ≤ l.getD (fromOf l p + i) [] := by
      have h2 := fromOf_not l p (by omega)
      intro h3
      have h4 := rises_le h (fromOf l p) (fromOf l p + i) (by omega) (by omega)
      exact h2 (lt_of_le_lt h4 h3)
    have h2 := begins_mid p _ _ h1 (rises_le h _ _ (show fromOf l p + i ≤ fromOf l p + j by omega) hj) hb
    rw [← begins_iff] at h2
    rw [h2] at hp
    cases hp
set_option maxRecDepth 100000 in
set_option maxHeartbeats 800000 in
theorem begin_calls (w : World) (g : Nat) (l : List T) (s : ByteArray) (hs : DictAt w g l) (hr : l.Pairwise (· < ·)) (hl : l.length ≤ 4611686018427387904) :
    Calls Try.prog 16 #[.pointer (some ⟨g, 0, none⟩), .string s] w fun e w' => e = .returned (.tuple #[.int .i64 (fromOf l s.data.toList : Nat), .int .i64 (fromOf l s.data.toList + runOf l s.data.toList : Nat)]) ∧ Below w.heap.size w w' := by
  have HS := Aside0.mk hs
  have HR := Aside0.mk hr
  have HL := Aside0.mk hl
  have HRl := Aside0.mk (runOf_le l s.data.toList)
  have HM := Aside0.mk (mono_run hr s.data.toList)
  have HI := Aside0.mk (run_is l s.data.toList)
  have HFr := Aside0.mk (fun w (hs : DictAt w g l) => from_calls w g l s hs hr hl)
  have hfl := fromOf_le l s.data.toList
  clear hs hr hl
  generalize runOf l s.data.toList = rn at *
  generalize fromOf l s.data.toList = lo at *
  have hmf : ∀ (fn : Fn) (first cap : Array Value) (w : World), (Instr.makeFunc fn first cap).run Try.prog w = .ok (.func fn first cap) w := fun _ _ _ _ => rfl
  go_enter Try.func16, Try.ntmps16
  go_wp2_with fail
  have hb1 : Below w.heap.size w ((w.alloc (.cells #[.pointer (some ⟨g, 0, none⟩)] 25)).alloc (.cells #[.string s] 9)) := ((Below.refl _ _).alloc (Nat.le_refl _) _).alloc (by simp) _
  have HS1 := Aside0.mk (HS.out.below hb1)
  have HB1 := Aside0.mk hb1
  have hp : ((w.alloc (.cells #[.pointer (some ⟨g, 0, none⟩)] 25)).alloc (.cells #[.string s] 9)).cell? ⟨w.heap.size, 0, none⟩ = some (.pointer (some ⟨g, 0, none⟩)) := by go_simp
  have hq : ((w.alloc (.cells #[.pointer (some ⟨g, 0, none⟩)] 25)).alloc (.cells #[.string s] 9)).cell? ⟨w.heap.size + 1, 0, none⟩ = some (.string s) := by go_simp
  clear hb1
  generalize ((w.alloc (.cells #[.pointer (some ⟨g, 0, none⟩)] 25)).alloc (.cells #[.string s] 9)) = w1 at *
  refine (HFr.out w1 HS1.out).mono ?_
  rintro e w2 ⟨rfl, hb⟩
  have hp2 := pw_cell_below hb hp
  have hq2 := pw_cell_below hb hq
  have HS2 := Aside0.mk (HS1.out.below hb)
  have HB2 := Aside0.mk (below_then HB1.out HB1.out.size hb)
  clear hb hp hq HB1 HS1
  go_wp2_with fail
  have hb3 : Below w2.heap.size w2 (w2.alloc (.cells #[.int .i64 lo] 3)) := (Below.refl _ _).alloc (Nat.le_refl _) _
  have hp3 := pw_cell_below hb3 hp2
  have hq3 := pw_cell_below hb3 hq2
  have hr3 : (w2.alloc (.cells #[.int .i64 lo] 3)).cell? ⟨w2.heap.size, 0, none⟩ = some (.int .i64 lo) := by go_simp
  have HS3 := Aside0.mk (HS2.out.below hb3)
  have HB3 := Aside0.mk (below_then HB2.out HB2.out.size hb3)
  clear hb3 hp2 hq2 HB2 HS2
  generalize w2.alloc (.cells #[.int .i64 lo] 3) = w3 at *
  generalize w2.heap.size = b3 at *
  have hL := HL.out
  obtain ⟨d, hd⟩ : ∃ d, l.length = lo + d := ⟨l.length - lo, by omega⟩
  have hsub : IntKind.i64.wrap ((l.length : Int) - (lo : Int)) = (d : Int) := by rw [IntKind.wrap_i64]; omega
  have hsub2 : wrap64 ((l.length : Int) - (lo : Int)) = (d : Int) := by rw [IntWalk.wrap64_in _ (by omega)]; omega
  have HD := Aside0.mk hd
  have hdl : d ≤ l.length := by omega
  clear hd hL
  have hpd : w3.drew.cell? ⟨w.heap.size, 0, none⟩ = some (.pointer (some ⟨g, 0, none⟩)) := hp3
  have hrd : w3.drew.cell? ⟨b3, 0, none⟩ = some (.int .i64 lo) := hr3
  have hqd : w3.drew.cell? ⟨w.heap.size + 1, 0, none⟩ = some (.string s) := hq3
  have HWd := Aside0.mk (fun (i : Nat) (w' : World) (hi : i < d) (hb : Below w3.drew.heap.size w3.drew w') => begin_word w' _ _ _ g lo l s (pw_cell_below hb hpd) (pw_cell_below hb hrd) (pw_cell_below hb hqd) (HS3.out.below (below_then (below_drew (Below.refl _ _)) (Nat.le_refl _) hb)) i (by have := HD.out; omega) HL.out)
  clear hpd hrd hqd
  go_wp2_with fail
  refine start_ (n := 7) (S := fun w' => w'.cell? ⟨w.heap.size, 0, none⟩ = some (.pointer (some ⟨g, 0, none⟩)) ∧ w'.cell? ⟨b3, 0, none⟩ = some (.int .i64 lo)) (ds := []) #[false, false, false, false, false, false, false] (by kernel_rfl) rfl rfl ⟨hp3, hr3⟩ (fun hHeld => ?_)
  refine pure_ (i := 4) (N := some 15) (v := ?_) (a' := ?_) #[false, false, false, false, true, false, false] rfl rfl (by kernel_rfl) (fun _ _ _ h => h) (Or.inl ⟨by rfl, ?_⟩) ?_ ?_
  rotate_left
  · intro w'
    go_simp
    with_reducible rfl
  rotate_left
  · simp only [Act.put, List.setIfInBounds_toArray, List.set_cons_zero, List.set_cons_succ, i64_w, i32_w]
    rfl
  refine take_ (i := 0) (N := some 11) (v := ?_) (a' := ?_) #[true, false, false, false, true, false, false] rfl rfl (by kernel_rfl) (fun _ _ _ h => h) (Or.inl ⟨by rfl, ?_⟩) hHeld ?_ ?_
  rotate_left
  · rintro w' ⟨s0, s1⟩
    go_simp
    with_reducible rfl
  rotate_left
  · simp only [Act.put, List.setIfInBounds_toArray, List.set_cons_zero, List.set_cons_succ, i64_w, i32_w]
    rfl
  refine take_ (i := 2) (N := some 13) (v := ?_) (a' := ?_) #[true, false, true, false, true, false, false] rfl rfl (by kernel_rfl) (fun _ _ _ h => h) (Or.inl ⟨by rfl, ?_⟩) hHeld ?_ ?_
  rotate_left
  · rintro w' ⟨s0, s1⟩
    go_simp
    with_reducible rfl
  rotate_left
  · simp only [Act.put, List.setIfInBounds_toArray, List.set_cons_zero, List.set_cons_succ, i64_w, i32_w]
    rfl
  refine one_ (i := 1) (N := some 12) #[true, true, true, false, true, false, false] rfl rfl (by kernel_rfl) (by decide) (fun K hK => ?_)
  refine goes_ Try.func15 (by kernel_rfl) rfl #[.pointer (some ⟨g, 0, none⟩)] (by rfl) rfl rfl (by simp only [List.map_toArray, List.map_cons, List.map_nil]; rfl) ?_
  with_reducible refine (len_calls _ g l (HS3.out.below (below_drew (Below.refl _ _)))).mono ?_
  rintro e w4 ⟨rfl, rfl⟩
  refine ⟨_, rfl, ?_⟩
  refine hK.out _ _ ⟨hHeld.1, hHeld.2⟩ (fun hHeld => ?_)
  clear hK K
  refine norm_ (a' := ?_) ?_ ?_
  rotate_left
  · show Act.put _ (some 12) _ = _
    simp only [Act.put, List.setIfInBounds_toArray, List.set_cons_zero, List.set_cons_succ, i64_w, i32_w]
    rfl
  refine pure_ (i := 3) (N := some 14) (v := ?_) (a' := ?_) #[true, true, true, true, true, false, false] rfl rfl (by kernel_rfl) (fun _ _ _ h => h) (Or.inl ⟨by rfl, ?_⟩) ?_ ?_
  rotate_left
  · intro w'
    go_simp
    with_reducible rfl
  rotate_left
  · simp only [Act.put, List.setIfInBounds_toArray, List.set_cons_zero, List.set_cons_succ, i64_w, i32_w]
    rfl
  refine one_ (i := 5) (N := some 16) #[true, true, true, true, true, true, false] rfl rfl (by kernel_rfl) (by decide) (fun K hK => ?_)
  refine goes_ Try.func30 (by kernel_rfl) rfl #[.int .i64 d, .func (.func 31) #[] #[.pointer (some ⟨w.heap.size, 0, none⟩), .pointer (some ⟨b3, 0, none⟩), .pointer (some ⟨w.heap.size + 1, 0, none⟩)]] (by rfl) rfl rfl (by simp only [List.map_toArray, List.map_cons, List.map_nil]; rfl) ?_
  with_reducible refine (search_calls d w3.drew 31 _ _ Try.func31 (by kernel_rfl) rfl (by have := HL.out; omega) (fun i => !begins (l.getD (lo + i) []) s.data.toList) HWd.out (fun i j hij hj => HM.out i j hij (by have := HD.out; omega))).mono ?_
  rintro e w4 ⟨k, rfl, hk, h1, h2, hdr⟩
  refine ⟨_, rfl, ?_⟩
  have HE := Aside0.mk (HI.out k (by have := HD.out; omega) (fun i hi => by have := h1 i hi; simpa using this) (fun h => by have := h2 (by have := HD.out; omega); simpa using this))
  have hb4 : Below w3.heap.size w3 w4 := below_then (below_drew (Below.refl _ _)) (Nat.le_refl _) hdr.below
  have HB4 := Aside0.mk (below_then HB3.out HB3.out.size hb4)
  have hp4 := pw_cell_below hb4 hp3
  have hr4 := pw_cell_below hb4 hr3
  clear h1 h2 hdr hb4 hk
  refine hK.out _ _ ⟨hp4, hr4⟩ (fun hHeld => ?_)
  clear hK K
  refine norm_ (a' := ?_) ?_ ?_
  rotate_left
  · show Act.put _ (some 16) _ = _
    simp only [Act.put, List.setIfInBounds_toArray, List.set_cons_zero, List.set_cons_succ, i64_w, i32_w]
    rfl
  refine pure_ (i := 6) (N := some 7) (v := ?_) (a' := ?_) #[true, true, true, true, true, true, true] rfl rfl (by kernel_rfl) (fun _ _ _ h => h) (Or.inl ⟨by rfl, ?_⟩) ?_ ?_
  rotate_left
  · intro w'
    go_simp
    with_reducible rfl
  rotate_left
  · simp only [Act.put, List.setIfInBounds_toArray, List.set_cons_zero, List.set_cons_succ, i64_w, i32_w]
    rfl
  refine done_ (by kernel_rfl) ?_
  have hkn : k ≤ d := by have := HE.out; have := HRl.out; have := HD.out; omega
  have hsum : IntKind.i64.wrap ((lo : Int) + (k : Int)) = ((lo + k : Nat) : Int) := by rw [IntKind.wrap_i64]; have := HL.out; have := HD.out; omega
  have hsum2 : wrap64 ((lo : Int) + (k : Int)) = ((lo + k : Nat) : Int) := by have := HL.out; have := HD.out; rw [IntWalk.wrap64_in _ (by omega)]; omega
  go_wp2_with fail
  go_quiet (fail)
  go_wp2_with fail
  go_ret2
  exact ⟨by rw [← HE.out]; rfl, pw_below_drewN HB4.out _⟩
end Go.Proofs.Ytomgfhapmhagnaa.Txt
