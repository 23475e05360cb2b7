/- Chapter 03: reading a dictionary's bytes: the program's way and the document's, plain Lean. -/
import Derived.Test.YtomgfhapmhagnaaDictW
import Derived.Test.YtomgfhapmhagnaaRead
namespace Go.Proofs.Ytomgfhapmhagnaa.Txt
set_option linter.unusedVariables false
set_option linter.unusedSimpArgs false
open Go.RowKit Go.Proofs.YtomgfhapmhagnaaW.PrintWords Go.Proofs.Ytomgfhapmhagnaa.Lib Go.Proofs.Ytomgfhapmhagnaa.Read

def txt (r : List Int) : T := (strOfNums r).data.toList
theorem txt_length (r : List Int) : (txt r).length = r.length := by unfold txt strOfNums; simp
theorem txt_nums (t : T) : txt (numsT t) = t := by
  unfold txt strOfNums numsT
  simp only [List.map_map]
  conv => rhs; rw [← List.map_id t]
  exact List.map_congr_left (fun x _ => by simp)
theorem bs_txt (r : List Int) : bs (txt r) = strOfNums r := bs_of _

def stS (s : St) : St := (rdT (rdU s).2).2
def restS (s : St) : T := txt (rdT (rdU s).2).1
def kW (s : St) (was : T) : T := was.take (min (rdU s).1 was.length) ++ restS s
def cutW (w : T) : T := if 128 < w.length then w.take 64 else w
def loopW : Nat → St → T → List T → St × List T
  | 0, s, _, out => (s, out)
  | m + 1, s, was, out => loopW m (stS s) (cutW (kW s was)) (out ++ [kW s was])
def rawR (s : St) (was : T) : T := was.take (if was.length < (rdU s).1 then 0 else (rdU s).1) ++ restS s
def newR (s : St) (was : T) : T := if 64 < (rawR s was).length then [] else rawR s was
def okR (i : Nat) (s : St) (was : T) : Bool := decide ((rdU s).1 ≤ was.length) && decide ((rawR s was).length ≤ 64) && !(decide (0 < i) && !decide (was < newR s was))
def loopR : Nat → Nat → St → T → List T → Bool → St × List T × Bool
  | 0, _, s, _, out, f => (s, out, f)
  | m + 1, i, s, was, out, f => if s.2 = 0 then loopR m (i + 1) (stS s) (newR s was) (out ++ [newR s was]) (f && okR i s was) else (s, out, f)

theorem rdU_stuck (s : St) (h : s.2 ≠ 0) : rdU s = (0, s) := by unfold rdU; rw [if_pos h]
theorem stS_stuck (s : St) (h : s.2 ≠ 0) : stS s = s := by
  unfold stS
  rw [rdU_stuck s h]
  show (rdT s).2 = s
  unfold rdT rdC
  rw [rdU_stuck s h]
  simp only
  rw [if_neg (fun hh => h hh.1)]
  simp
theorem stS_ok (s : St) (h : Ok s) : Ok (stS s) := rdT_ok _ (rdU_ok s h)
theorem loopW_stuck : ∀ (m : Nat) (s : St) (was : T) (out : List T), s.2 ≠ 0 → (loopW m s was out).1 = s
  | 0, s, was, out, h => rfl
  | m + 1, s, was, out, h => by
    rw [loopW, stS_stuck s h]
    exact loopW_stuck m s _ _ h
theorem ends_same : ∀ (m i : Nat) (s : St) (w o w' o') (f : Bool), (loopW m s w o).1 = (loopR m i s w' o' f).1
  | 0, i, s, w, o, w', o', f => rfl
  | m + 1, i, s, w, o, w', o', f => by
    by_cases h : s.2 = 0
    · rw [loopW, loopR, if_pos h]
      exact ends_same m (i + 1) _ _ _ _ _ _
    · rw [loopW_stuck (m + 1) s w o h, loopR, if_neg h]
theorem not_fine : ∀ (m i : Nat) (s : St) (w o), (loopR m i s w o false).2.2 = false
  | 0, i, s, w, o => rfl
  | m + 1, i, s, w, o => by
    by_cases h : s.2 = 0
    · rw [loopR, if_pos h, Bool.false_and]
      exact not_fine m (i + 1) _ _ _
    · rw [loopR, if_neg h]
theorem ok_parts {i : Nat} {s : St} {was : T} (h : okR i s was = true) (hw : was.length ≤ 64) : kW s was = newR s was ∧ cutW (kW s was) = newR s was ∧ (newR s was).length ≤ 64 ∧ (0 < i → was < newR s was) := by
  unfold okR at h
  rw [Bool.and_eq_true, Bool.and_eq_true, decide_eq_true_iff, decide_eq_true_iff] at h
  obtain ⟨⟨h1, h2⟩, h3⟩ := h
  have e1 : newR s was = rawR s was := by unfold newR; rw [if_neg (by omega)]
  have e2 : kW s was = rawR s was := by unfold kW rawR; rw [if_neg (by omega), Nat.min_eq_left h1]
  refine ⟨by rw [e2, e1], ?_, by rw [e1]; exact h2, fun hi => ?_⟩
  · rw [e2, e1]; unfold cutW; rw [if_neg (by omega)]
  · have hd : decide (0 < i) = true := decide_eq_true hi
    rw [hd, Bool.true_and, Bool.not_not, decide_eq_true_iff] at h3
    exact h3
theorem newR_le (s : St) (was : T) : (newR s was).length ≤ 64 := by
  unfold newR
  split
  · exact Nat.zero_le _
  · omega
theorem same_out : ∀ (m i : Nat) (s : St) (was : T) (out : List T), was.length ≤ 64 → (loopR m i s was out true).2.2 = true → (loopR m i s was out true).1.2 = 0 → (loopW m s was out).2 = (loopR m i s was out true).2.1
  | 0, i, s, was, out, _, _, _ => rfl
  | m + 1, i, s, was, out, hw, hf, he => by
    by_cases h : s.2 = 0
    · rw [loopR, if_pos h, Bool.true_and] at hf he ⊢
      cases hok : okR i s was
      · rw [hok] at hf
        rw [not_fine] at hf
        cases hf
      · rw [hok] at hf he
        obtain ⟨h1, h2, h3, _⟩ := ok_parts hok hw
        rw [loopW, h2, h1]
        exact same_out m (i + 1) _ _ _ h3 hf he
    · rw [loopR, if_neg h] at he
      exact absurd he h
theorem rises_out : ∀ (m i : Nat) (s : St) (was : T) (out : List T), was.length ≤ 64 → i = out.length → out.Pairwise (· < ·) → (0 < i → ∃ o, out = o ++ [was]) → (loopR m i s was out true).2.2 = true → (loopR m i s was out true).2.1.Pairwise (· < ·)
  | 0, i, s, was, out, _, _, hp, _, _ => hp
  | m + 1, i, s, was, out, hw, hi, hp, hl, hf => by
    by_cases h : s.2 = 0
    · rw [loopR, if_pos h, Bool.true_and] at hf ⊢
      cases hok : okR i s was
      · rw [hok] at hf
        rw [not_fine] at hf
        cases hf
      · rw [hok] at hf
        obtain ⟨_, _, h3, h4⟩ := ok_parts hok hw
        refine rises_out m (i + 1) _ _ _ h3 (by rw [List.length_append, List.length_singleton, hi]) ?_ (fun _ => ⟨out, rfl⟩) hf
        rw [List.pairwise_append]
        refine ⟨hp, List.pairwise_singleton _ _, fun a ha b hb => ?_⟩
        rw [List.mem_singleton] at hb
        subst hb
        have hi0 : 0 < i := by rw [hi]; exact List.length_pos_of_mem ha
        obtain ⟨o, rfl⟩ := hl hi0
        have hlt := h4 hi0
        rcases List.mem_append.1 ha with h5 | h5
        · exact lt_trans ((List.pairwise_append.1 hp).2.2 a h5 was (by simp)) hlt
        · rw [List.mem_singleton.1 h5]; exact hlt
    · rw [loopR, if_neg h]
      exact hp
theorem lens_out : ∀ (m i : Nat) (s : St) (was : T) (out : List T) (f : Bool), (∀ t ∈ out, t.length ≤ 64) → ∀ t ∈ (loopR m i s was out f).2.1, t.length ≤ 64
  | 0, i, s, was, out, f, h => h
  | m + 1, i, s, was, out, f, h => by
    by_cases hs : s.2 = 0
    · rw [loopR, if_pos hs]
      refine lens_out m (i + 1) _ _ _ _ (fun t ht => ?_)
      rcases List.mem_append.1 ht with h1 | h1
      · exact h t h1
      · rw [List.mem_singleton.1 h1]; exact newR_le s was
    · rw [loopR, if_neg hs]
      exact h
theorem built_self {l : List T} (h : l.Pairwise (· < ·)) : built l = l := rises_eq (built_rises l) h (fun y => built_mem l y)
theorem build_self {l : List T} (h : l.Pairwise (· < ·)) (hl : l.length ≤ 4096) (ht : ∀ t ∈ l, t.length ≤ 64) : build l = some l := by
  unfold build tooLong
  have h1 : (l.any fun t => decide (64 < t.length)) = false := by
    rw [List.any_eq_false]
    intro t hm
    have := ht t hm
    simpa using this
  rw [h1, if_neg (by decide), built_self h, if_neg (by omega)]

/-! ### what is written is read -/
theorem uvar_one (n : Nat) (h : n < 128) (rest : List Int) : uvar 0 0 ((n : Int) :: rest) = (n, rest, 0) := by
  rw [uvar_last 0 0 n rest (by omega) h]
  simp
theorem uvar_varint (n : Nat) (h : n < 16384) (rest : List Int) : uvar 0 0 (varint n ++ rest) = (n, rest, 0) := by
  by_cases h1 : n < 128
  · rw [varint_small h1]
    exact uvar_one n h1 rest
  · rw [varint_big (by omega), varint_small (by omega)]
    have e := uvar_more 0 0 (n % 128 + 128) (((n / 128 : Nat) : Int) :: rest) (by omega) (by omega)
    have e2 := uvar_last 1 (0 + (n % 128 + 128) % 128 * 128 ^ 0) (n / 128) rest (by omega) (by omega)
    rw [List.cons_append, List.cons_append, List.nil_append, e, e2]
    simp only [Nat.pow_zero, Nat.pow_one, Nat.mul_one, Nat.zero_add]
    rw [show (n % 128 + 128) % 128 + n / 128 * 128 = n by omega]
theorem rdU_varint (n : Nat) (h : n < 16384) (rest : List Int) : rdU (varint n ++ rest, 0) = (n, (rest, 0)) := by
  unfold rdU
  rw [if_neg (by simp)]
  simp only
  rw [uvar_varint n h rest]
theorem rdT_text (t : T) (h : t.length < 16384) (rest : List Int) : rdT (varint t.length ++ numsT t ++ rest, 0) = (numsT t, (rest, 0)) := by
  have hc : rdC 1 (varint t.length ++ numsT t ++ rest, 0) = ((t.length : Int), (numsT t ++ rest, 0)) := by
    unfold rdC
    rw [List.append_assoc, rdU_varint _ h]
    simp only
    rw [if_neg (by rw [List.length_append, numsT_length]; have : (max (1 : Int) 1).toNat = 1 := by decide
                   rw [this, Nat.div_one]; omega)]
  unfold rdT
  rw [hc]
  simp only [Int.toNat_natCast]
  rw [List.take_append_of_le_length (by rw [numsT_length]; exact Nat.le_refl _), List.drop_append_of_le_length (by rw [numsT_length]; exact Nat.le_refl _), List.take_of_length_le (by rw [numsT_length]; exact Nat.le_refl _), List.drop_of_length_le (by rw [numsT_length]; exact Nat.le_refl _)]
  rfl
theorem shared_take : ∀ a b : T, a.take (sharedOf a b) = b.take (sharedOf a b)
  | [], b => by rw [sharedOf_nil]; simp
  | x :: a, [] => by simp [sharedOf]
  | x :: a, y :: b => by
    by_cases h : x = y
    · subst h
      have e : sharedOf (x :: a) (x :: b) = sharedOf a b + 1 := by simp [sharedOf]
      rw [e, List.take_succ_cons, List.take_succ_cons, shared_take a b]
    · have e : sharedOf (x :: a) (y :: b) = 0 := by simp [sharedOf, h]
      rw [e]; rfl
theorem read_one (was t : T) (rest : List Int) (hw : was.length ≤ 64) (ht : t.length ≤ 64) : (rdU (encOne was t ++ rest, 0)).1 = sharedOf was t ∧ restS (encOne was t ++ rest, 0) = t.drop (sharedOf was t) ∧ stS (encOne was t ++ rest, 0) = (rest, 0) := by
  have hs := sharedOf_le was t
  have h1 : rdU (encOne was t ++ rest, 0) = (sharedOf was t, (varint (t.drop (sharedOf was t)).length ++ numsT (t.drop (sharedOf was t)) ++ rest, 0)) := by
    unfold encOne
    rw [List.append_assoc, List.append_assoc, rdU_varint _ (by omega), List.length_drop, List.append_assoc]
  unfold restS stS
  rw [h1]
  simp only
  rw [rdT_text _ (by rw [List.length_drop]; omega)]
  exact ⟨by trivial, txt_nums _, rfl⟩
theorem read_back : ∀ (l : List T) (i : Nat) (was : T) (out : List T), was.length ≤ 64 → (∀ t ∈ l, t.length ≤ 64) → l.Pairwise (· < ·) → (0 < i → (was :: l).Pairwise (· < ·)) → loopR l.length i (encAll was l, 0) was out true = (([], 0), out ++ l, true)
  | [], i, was, out, _, _, _, _ => by simp [loopR, encAll]
  | t :: l, i, was, out, hw, ht, hp, hi => by
    have ht0 := ht t (by simp)
    obtain ⟨h1, h2, h3⟩ := read_one was t (encAll t l) hw ht0
    have hs := sharedOf_le was t
    have hraw : rawR (encOne was t ++ encAll t l, 0) was = t := by
      unfold rawR
      rw [h1, h2, if_neg (by omega), shared_take, List.take_append_drop]
    have hnew : newR (encOne was t ++ encAll t l, 0) was = t := by
      unfold newR
      rw [hraw, if_neg (by omega)]
    have hok : okR i (encOne was t ++ encAll t l, 0) was = true := by
      unfold okR
      rw [h1, hraw, hnew, decide_eq_true (by omega), decide_eq_true ht0]
      by_cases h0 : 0 < i
      · have := (List.pairwise_cons.1 (hi h0)).1 t (by simp)
        rw [decide_eq_true this]; simp
      · rw [decide_eq_false h0]; rfl
    rw [List.length_cons, encAll, loopR, if_pos rfl, h3, hnew, hok]
    rw [show (true && true) = true from rfl, read_back l (i + 1) t (out ++ [t]) ht0 (fun x hx => ht x (by simp [hx])) (List.pairwise_cons.1 hp).2 (fun _ => hp)]
    simp
theorem encOne_two (was t : T) : 2 ≤ (encOne was t).length := by
  have h : ∀ n, 1 ≤ (varint n).length := fun n => by rw [varint]; split <;> simp
  unfold encOne
  have h1 := h (sharedOf was t)
  have h2 := h (t.length - sharedOf was t)
  rw [List.length_append, List.length_append]
  omega
theorem encAll_two : ∀ (was : T) (l : List T), 2 * l.length ≤ (encAll was l).length
  | _, [] => Nat.zero_le _
  | was, t :: l => by
    have h1 := encOne_two was t
    have h2 := encAll_two t l
    rw [encAll, List.length_append, List.length_cons]
    omega
theorem count_back (l : List T) (hl : l.length ≤ 4096) : rdC 2 (dictBytes l, 0) = ((l.length : Int), (encAll [] l, 0)) := by
  have h := encAll_two [] l
  unfold rdC dictBytes
  rw [rdU_varint _ (by omega)]
  simp only
  have e : (max (2 : Int) 1).toNat = 2 := by decide
  rw [e, if_neg (by omega)]

/-! ### the two readings -/
def outW (b : List Int) : St × List T := loopW (rdC 2 (b, 0)).1.toNat (rdC 2 (b, 0)).2 [] []
def outR (b : List Int) : St × List T × Bool := loopR (rdC 2 (b, 0)).1.toNat 0 (rdC 2 (b, 0)).2 [] [] true
/-- what both answer: an error, or texts -/
def parseR (b : List Int) : Int × Option (List T) :=
  if rdEnd (outR b).1 ≠ 0 then (rdEnd (outR b).1, none) else if (outR b).2.2 = true ∧ (outR b).2.1.length ≤ 4096 ∧ dictBytes (outR b).2.1 = b then (0, some (outR b).2.1) else (12, none)
def parseW (b : List Int) : Int × Option (List T) :=
  if rdEnd (outW b).1 ≠ 0 then (rdEnd (outW b).1, none) else match build (outW b).2 with
    | none => (12, none)
    | some l => if dictBytes l = b then (0, some l) else (12, none)
theorem end_zero {s : St} (h : rdEnd s = 0) : s.2 = 0 := by
  unfold rdEnd at h
  split at h
  · cases h
  · exact h
theorem outR_back {l : List T} (h : l.Pairwise (· < ·)) (hl : l.length ≤ 4096) (ht : ∀ t ∈ l, t.length ≤ 64) : outR (dictBytes l) = (([], 0), l, true) := by
  unfold outR
  rw [count_back l hl]
  simp only [Int.toNat_natCast]
  rw [read_back l 0 [] [] (Nat.zero_le _) ht h (fun h => absurd h (by decide))]
  rfl
theorem parse_same (b : List Int) : parseW b = parseR b := by
  have he : (outW b).1 = (outR b).1 := ends_same _ _ _ _ _ _ _ _
  unfold parseW parseR
  rw [he]
  by_cases h0 : rdEnd (outR b).1 = 0
  · rw [if_neg (by omega), if_neg (by omega)]
    by_cases hR : (outR b).2.2 = true ∧ (outR b).2.1.length ≤ 4096 ∧ dictBytes (outR b).2.1 = b
    · obtain ⟨h1, h2, h3⟩ := hR
      have hs : (outW b).2 = (outR b).2.1 := same_out _ 0 _ [] [] (Nat.zero_le _) h1 (end_zero h0)
      have hr : (outR b).2.1.Pairwise (· < ·) := rises_out _ 0 _ [] [] (Nat.zero_le _) rfl List.Pairwise.nil (fun h => absurd h (by decide)) h1
      have hl : ∀ t ∈ (outR b).2.1, t.length ≤ 64 := lens_out _ 0 _ [] [] true (fun t h => absurd h List.not_mem_nil)
      rw [hs, build_self hr h2 hl]
      simp only
      rw [if_pos h3, if_pos ⟨h1, h2, h3⟩]
    · rw [if_neg hR]
      cases hb : build (outW b).2 with
      | none => rfl
      | some l =>
        simp only
        by_cases hd : dictBytes l = b
        · exfalso
          obtain ⟨_, h1, h2, h3⟩ := build_fit hb
          have := outR_back h3 h1 h2
          rw [hd] at this
          exact hR (by rw [this]; exact ⟨rfl, h1, hd⟩)
        · rw [if_neg hd]
  · rw [if_pos h0, if_pos h0]
theorem parse_back {l : List T} (h : l.Pairwise (· < ·)) (hl : l.length ≤ 4096) (ht : ∀ t ∈ l, t.length ≤ 64) : parseW (dictBytes l) = (0, some l) := by
  rw [parse_same]
  unfold parseR
  rw [outR_back h hl ht]
  simp only
  rw [if_neg (by unfold rdEnd; simp), if_pos ⟨by trivial, hl, by trivial⟩]
theorem parseR_fit {b : List Int} {e : Int} {l : List T} (h : parseR b = (e, some l)) : e = 0 ∧ l.Pairwise (· < ·) ∧ l.length ≤ 4096 ∧ (∀ t ∈ l, t.length ≤ 64) := by
  unfold parseR at h
  split at h
  · cases h
  · split at h
    · rename_i h1 h2
      have e2 : (outR b).2.1 = l := by injection h with _ h; exact Option.some.inj h
      have hr : (outR b).2.1.Pairwise (· < ·) := rises_out _ 0 _ [] [] (Nat.zero_le _) rfl List.Pairwise.nil (fun h => absurd h (by decide)) h2.1
      have hl : ∀ t ∈ (outR b).2.1, t.length ≤ 64 := lens_out _ 0 _ [] [] true (fun t h => absurd h List.not_mem_nil)
      rw [← e2]
      refine ⟨?_, hr, h2.2.1, hl⟩
      injection h with h _
      exact h.symm
    · cases h
end Go.Proofs.Ytomgfhapmhagnaa.Txt
