/- Dictionaries: Build, Len, Text, From, Id: what they answer. -/
import Derived.Test.YtomgfhapmhagnaaSearch
namespace Go.Proofs.Ytomgfhapmhagnaa.Txt
set_option linter.unusedVariables false
set_option linter.unusedSimpArgs false
open Go.RowKit Go.Proofs.YtomgfhapmhagnaaW.PrintWords Go.Proofs.YtomgfhapmhagnaaW.PrintLast Go.Proofs.YtomgfhapmhagnaaW.PrintMore Go.Proofs.Ytomgfhapmhagnaa.Lib

/-- A dictionary of these texts lies in block g. -/
def DictAt (w : World) (g : Nat) (l : List T) : Prop := ∃ A c, w.cell? ⟨g, 0, none⟩ = some (.slice A l.length c) ∧ text.C w A l.length l ∧ l.length ≤ c
theorem DictAt.below {w w' : World} {g : Nat} {l : List T} (h : DictAt w g l) (hb : Below w.heap.size w w') : DictAt w' g l := by
  obtain ⟨A, c, h1, h2, h3⟩ := h
  exact ⟨A, c, pw_cell_below hb h1, Kd.C_below h2 hb, h3⟩

set_option maxRecDepth 100000 in
set_option maxHeartbeats 400000 in
theorem long_word (s : ByteArray) (w : World) :
    Calls Try.prog 23 #[.string s] w fun e w' => e = .returned (.bool (decide (64 < s.size))) ∧ w = w' := by
  have HD : Aside0 (decide ((64 : Int) < (s.size : Int)) = decide (64 < s.size)) := ⟨by rw [Bool.eq_iff_iff, decide_eq_true_iff, decide_eq_true_iff]; omega⟩
  by_cases h : 64 < s.size
  · have h2 : decide (64 < s.size) = true := decide_eq_true h
    rw [h2]
    have h3 : decide ((64 : Int) < (s.size : Int)) = true := decide_eq_true (by omega)
    clear h h2
    go_enter Try.func23, Try.ntmps23
    go_wp2_with fail
    go_ret
    exact ⟨rfl, rfl⟩
  · have h2 : decide (64 < s.size) = false := decide_eq_false h
    rw [h2]
    have h3 : decide ((64 : Int) < (s.size : Int)) = false := decide_eq_false (by omega)
    clear h h2
    go_enter Try.func23, Try.ntmps23
    go_wp2_with fail
    go_ret
    exact ⟨rfl, rfl⟩
def tooLong (ts : List T) : Bool := ts.any fun t => decide (64 < t.length)
set_option maxRecDepth 100000 in
set_option maxHeartbeats 400000 in
theorem index_long (ts : List T) (A : Option Addr) (n c : Nat) (w : World) (hC : text.C w A n ts) :
    Calls Try.prog 47 #[.slice A n c, .func (.func 23) #[] #[]] w fun e w' => (∃ k : Int, e = .returned (.int .i64 k) ∧ decide (0 ≤ k) = tooLong ts) ∧ w = w' := by
  have HC := Aside0.mk hC
  have HLen := Aside0.mk (show ts.length = n from hC.1)
  have hn := hC.2.1
  clear hC
  go_enter Try.func47, Try.ntmps47
  go_wp2_with fail
  go_loop [8] (fun kv => ∃ k : Nat, k ≤ n ∧ kv = .int .i64 k ∧ Aside0 (tooLong (ts.take k) = false)) (fun kv => n - (intOf kv).toNat)
  case atStart => exact ⟨0, Nat.zero_le _, rfl, ⟨by simp [tooLong]⟩⟩
  case round =>
    obtain ⟨k, hk, rfl, HT⟩ := hrel
    by_cases hlt : k < n
    · obtain ⟨ad, e, hcell⟩ := at_text HC.out k hlt
      subst e
      have HL := Aside0.mk (show tooLong (ts.take (k + 1)) = decide (64 < (bs (ts.getD k [])).size) by
        rw [List.take_succ_eq_append_getElem (by rw [HLen.out]; exact hlt)]
        have h := HT.out
        unfold tooLong at h ⊢
        rw [List.any_append, h, List.getD_eq_getElem?_getD, List.getElem?_eq_getElem (by rw [HLen.out]; exact hlt)]
        simp [bs_size]
        rfl)
      have HA := Aside0.mk (show tooLong (ts.take (k + 1)) = true → tooLong ts = true by
        unfold tooLong
        intro h
        rw [List.any_eq_true] at h ⊢
        obtain ⟨x, hx, h⟩ := h
        exact ⟨x, List.mem_of_mem_take hx, h⟩)
      generalize bs (ts.getD k []) = s at *
      go_wp2_with fail
      refine (long_word s w).mono ?_
      rintro e w1 ⟨rfl, rfl⟩
      rw [← HL.out]
      obtain ⟨b, hb⟩ : ∃ b, tooLong (ts.take (k + 1)) = b := ⟨_, rfl⟩
      rw [hb] at HL HA ⊢
      have HT2 := Aside0.mk hb
      clear hb HT
      cases b
      · go_wp2_with fail
        go_round
        case rel => exact ⟨k + 1, by omega, by go_num, HT2⟩
        case measure => simp [intOf]; omega
      · go_wp2_with fail
        go_ret
        exact ⟨⟨(k : Int), rfl, by rw [HA.out (by trivial)]; exact decide_eq_true (by omega)⟩, rfl⟩
    · obtain rfl : k = n := by omega
      have HE := Aside0.mk (show tooLong ts = false by have h := HT.out; rw [← HLen.out, List.take_length] at h; exact h)
      go_wp2_with fail
      go_ret
      exact ⟨⟨-1, rfl, by rw [HE.out]; rfl⟩, rfl⟩
set_option maxRecDepth 100000 in
set_option maxHeartbeats 400000 in
theorem contains_long (ts : List T) (A : Option Addr) (n c : Nat) (w : World) (hC : text.C w A n ts) :
    Calls Try.prog 22 #[.slice A n c, .func (.func 23) #[] #[]] w fun e w' => e = .returned (.bool (tooLong ts)) ∧ w = w' := by
  have H := Aside0.mk (index_long ts A n c w hC)
  clear hC
  go_enter Try.func22, Try.ntmps22
  go_wp2_with fail
  refine H.out.mono ?_
  rintro e w1 ⟨⟨k, rfl, hk⟩, rfl⟩
  have HK := Aside0.mk hk
  clear hk
  go_wp2_with fail
  go_ret
  exact ⟨by rw [← HK.out]; rfl, rfl⟩

/-- what Build answers: none, or the texts each once, rising -/
def build (ts : List T) : Option (List T) := if tooLong ts then none else if 4096 < (built ts).length then none else some (built ts)

set_option maxRecDepth 100000 in
set_option maxHeartbeats 1600000 in
theorem build_calls (ts : List T) (A : Option Addr) (n c : Nat) (w : World) (hC : text.C w A n ts) (hl : ts.length * 16 ≤ 140737488355328) :
    Calls Try.prog 10 #[.slice A n c] w fun e w' => (match build ts with
      | none => e = .returned (.tuple #[.pointer none, .int .i64 1])
      | some l => ∃ g, e = .returned (.tuple #[.pointer (some ⟨g, 0, none⟩), .int .i64 0]) ∧ w.heap.size ≤ g ∧ DictAt w' g l) ∧ Below w.heap.size w w' := by
  have HC := Aside0.mk hC
  have H := Aside0.mk (contains_long ts A n c w hC)
  have HL := Aside0.mk hl
  clear hC
  unfold build
  cases htl : tooLong ts
  case true =>
    rw [htl] at H
    simp only [if_true]
    clear htl
    go_enter Try.func10, Try.ntmps10
    go_wp2_with fail
    refine H.out.mono ?_
    rintro e w1 ⟨rfl, rfl⟩
    go_wp2_with fail
    go_ret2
    exact ⟨rfl, Below.refl _ _⟩
  case false =>
    rw [htl] at H
    simp only [Bool.false_eq_true, if_false]
    clear htl
    have HBu := Aside0.mk (show Go.Lib.compact (ts.mergeSort fun x y => decide (x ≤ y)) = built ts from rfl)
    by_cases hbig : 4096 < (built ts).length
    · rw [if_pos hbig]
      simp only
      go_enter Try.func10, Try.ntmps10
      go_wp2_with fail
      refine H.out.mono ?_
      rintro e w1 ⟨rfl, rfl⟩
      go_wp2_with fail
      refine (clone_texts ts n A c w HC.out HL.out).mono ?_
      rintro e w1 ⟨v, rfl, ho, hb⟩
      obtain ⟨A1, c1, rfl, -, -⟩ := Kd.R_reads ho
      have HO1 := Aside0.mk ho
      have HB1 := Aside0.mk hb
      clear ho hb
      go_wp2_with fail
      refine (sort_texts ts w1 w.heap.size (fun _ => True) A1 _ c1 HO1.out (by have := HL.out; omega)).mono ?_
      rintro e w2 ⟨rfl, ho, hg⟩
      have HB2 := Aside0.mk (pw_below_grown HB1.out _ HB1.out.size hg (fun k hk => Kd.R_base HO1.out k hk))
      have HO2 := Aside0.mk ho
      have HS2 := Aside0.mk (show (ts.mergeSort fun x y => decide (x ≤ y)).length = ts.length by simp)
      clear ho hg HO1 HB1
      go_wp2_with fail
      refine (compact_texts _ w2 w.heap.size (fun _ => True) A1 _ c1 HO2.out (by have := HL.out; rw [HS2.out]; omega)).mono ?_
      rintro e w3 ⟨rfl, ho, hg⟩
      have HB3 := Aside0.mk (pw_below_grown HB2.out _ HB2.out.size hg (fun k hk => Kd.R_base HO2.out k hk))
      rw [HBu.out] at ho ⊢
      have hbi : (4096 : Int) < ((built ts).length : Int) := by omega
      generalize built ts = bl at *
      clear ho hg HO2 HB2
      go_wp2_with fail
      go_ret2
      exact ⟨rfl, HB3.out⟩
    · rw [if_neg hbig]
      simp only
      go_enter Try.func10, Try.ntmps10
      go_wp2_with fail
      refine H.out.mono ?_
      rintro e w1 ⟨rfl, rfl⟩
      go_wp2_with fail
      refine (clone_texts ts n A c w HC.out HL.out).mono ?_
      rintro e w1 ⟨v, rfl, ho, hb⟩
      obtain ⟨A1, c1, rfl, -, -⟩ := Kd.R_reads ho
      have HO1 := Aside0.mk ho
      have HB1 := Aside0.mk hb
      clear ho hb
      go_wp2_with fail
      refine (sort_texts ts w1 w.heap.size (fun _ => True) A1 _ c1 HO1.out (by have := HL.out; omega)).mono ?_
      rintro e w2 ⟨rfl, ho, hg⟩
      have HB2 := Aside0.mk (pw_below_grown HB1.out _ HB1.out.size hg (fun k hk => Kd.R_base HO1.out k hk))
      have HO2 := Aside0.mk ho
      have HS2 := Aside0.mk (show (ts.mergeSort fun x y => decide (x ≤ y)).length = ts.length by simp)
      clear ho hg HO1 HB1
      go_wp2_with fail
      refine (compact_texts _ w2 w.heap.size (fun _ => True) A1 _ c1 HO2.out (by have := HL.out; rw [HS2.out]; omega)).mono ?_
      rintro e w3 ⟨rfl, ho, hg⟩
      have HB3 := Aside0.mk (pw_below_grown HB2.out _ HB2.out.size hg (fun k hk => Kd.R_base HO2.out k hk))
      rw [HBu.out] at ho ⊢
      have hbi : ((built ts).length : Int) ≤ 4096 := by omega
      clear hbig HBu
      obtain ⟨bl, hbl⟩ : ∃ bl, built ts = bl := ⟨_, rfl⟩
      rw [hbl] at ho hbi ⊢
      have HO3 := Aside0.mk ho
      have HBl := Aside0.mk hbl
      clear ho hg HO2 HB2 hbl
      go_wp2_with fail
      go_ret2
      obtain ⟨A4, c4, e4, h4, hC4⟩ := Kd.R_reads HO3.out
      injection e4 with e5 e6 e7
      subst e5
      subst e7
      rw [HBl.out]
      exact ⟨⟨w3.heap.size, rfl, HB3.out.size, A1, c1, by go_simp, Kd.C_below hC4 (below_alloc (Below.refl _ _) _), h4⟩, HB3.out.alloc HB3.out.size _⟩

/-! ### Len, Text -/
set_option maxRecDepth 100000 in
set_option maxHeartbeats 400000 in
theorem len_none (w : World) :
    Calls Try.prog 15 #[.pointer none] w fun e w' => e = .returned (.int .i64 0) ∧ w = w' := by
  go_enter Try.func15, Try.ntmps15
  go_wp2_with fail
  go_ret
  exact ⟨rfl, rfl⟩
set_option maxRecDepth 100000 in
set_option maxHeartbeats 400000 in
theorem len_calls (w : World) (g : Nat) (l : List T) (hs : DictAt w g l) :
    Calls Try.prog 15 #[.pointer (some ⟨g, 0, none⟩)] w fun e w' => e = .returned (.int .i64 l.length) ∧ w = w' := by
  obtain ⟨A, c, h1, -, -⟩ := hs
  go_enter Try.func15, Try.ntmps15
  go_wp2_with fail
  go_ret
  exact ⟨rfl, rfl⟩
set_option maxRecDepth 100000 in
set_option maxHeartbeats 400000 in
theorem text_none (i : Int) (w : World) :
    Calls Try.prog 14 #[.pointer none, .int .i64 i] w fun e w' => e = .returned (.tuple #[.string .empty, .bool false]) ∧ w = w' := by
  by_cases h : i < 0
  · go_enter Try.func14, Try.ntmps14
    go_wp2_with fail
    go_ret2
    exact ⟨rfl, rfl⟩
  · have h2 : (0 : Int) ≤ i := by omega
    clear h
    go_enter Try.func14, Try.ntmps14
    go_wp2_with fail
    refine (len_none w).mono ?_
    rintro e w1 ⟨rfl, rfl⟩
    go_wp2_with fail
    go_ret2
    exact ⟨rfl, rfl⟩
set_option maxRecDepth 100000 in
set_option maxHeartbeats 400000 in
theorem text_no (w : World) (g : Nat) (l : List T) (hs : DictAt w g l) (i : Int) (h : i < 0 ∨ (l.length : Int) ≤ i) :
    Calls Try.prog 14 #[.pointer (some ⟨g, 0, none⟩), .int .i64 i] w fun e w' => e = .returned (.tuple #[.string .empty, .bool false]) ∧ w = w' := by
  have HS := Aside0.mk hs
  clear hs
  by_cases h0 : i < 0
  · clear h
    go_enter Try.func14, Try.ntmps14
    go_wp2_with fail
    go_ret2
    exact ⟨rfl, rfl⟩
  · have h1 : (l.length : Int) ≤ i := by omega
    have h2 : (0 : Int) ≤ i := by omega
    clear h h0
    go_enter Try.func14, Try.ntmps14
    go_wp2_with fail
    refine (len_calls w g l HS.out).mono ?_
    rintro e w1 ⟨rfl, rfl⟩
    go_wp2_with fail
    go_ret2
    exact ⟨rfl, rfl⟩
set_option maxRecDepth 100000 in
set_option maxHeartbeats 400000 in
theorem text_calls (w : World) (g : Nat) (l : List T) (hs : DictAt w g l) (i : Nat) (h : i < l.length) :
    Calls Try.prog 14 #[.pointer (some ⟨g, 0, none⟩), .int .i64 i] w fun e w' => e = .returned (.tuple #[.string (bs (l.getD i [])), .bool true]) ∧ w = w' := by
  have HS := Aside0.mk hs
  obtain ⟨A, c, c0, hC, hc⟩ := hs
  obtain ⟨ad, e, hcell⟩ := at_text hC i h
  subst e
  have hi : (i : Int) < (l.length : Int) := by omega
  have hL := hC.2.1
  clear hC
  (obtain ⟨s, hgen⟩ : ∃ s, bs (l.getD i []) = s := ⟨_, rfl⟩; try rw [hgen] at hcell; try rw [hgen]; have HG_s := Aside0.mk hgen; clear hgen)
  go_enter Try.func14, Try.ntmps14
  go_wp2_with fail
  refine (len_calls w g l HS.out).mono ?_
  rintro e w1 ⟨rfl, rfl⟩
  go_wp2_with fail
  go_ret2
  exact ⟨rfl, rfl⟩

/-! ### From -/
set_option maxRecDepth 100000 in
set_option maxHeartbeats 400000 in
theorem from_word (w : World) (p q g : Nat) (l : List T) (s : ByteArray) (hp : w.cell? ⟨p, 0, none⟩ = some (.pointer (some ⟨g, 0, none⟩))) (hq : w.cell? ⟨q, 0, none⟩ = some (.string s)) (hs : DictAt w g l) (i : Nat) (h : i < l.length) :
    Calls Try.prog 33 #[.int .i64 i, .pointer (some ⟨p, 0, none⟩), .pointer (some ⟨q, 0, none⟩)] w fun e w' => e = .returned (.bool (!decide (l.getD i [] < s.data.toList))) ∧ Drawn0 w w' := by
  obtain ⟨A, c, c0, hC, hc⟩ := hs
  obtain ⟨ad, e, hcell⟩ := at_text hC i h
  subst e
  have hi : (i : Int) < (l.length : Int) := by omega
  have HE := Aside0.mk (less_is (bs (l.getD i [])) s)
  rw [bs_data] at HE
  clear hC
  rw [← HE.out]
  clear HE
  generalize bs (l.getD i []) = t at *
  go_enter Try.func33, Try.ntmps33
  go_wp2_with fail
  go_quiet (fail)
  go_wp2_with fail
  go_ret
  exact ⟨rfl, ⟨_, rfl⟩⟩

theorem mono_from {l : List T} (h : l.Pairwise (· < ·)) (s : T) (i j : Nat) (hij : i ≤ j) (hj : j < l.length) (hp : (!decide (l.getD i [] < s)) = true) : (!decide (l.getD j [] < s)) = true := by
  rw [Bool.not_eq_true', decide_eq_false_iff_not] at hp ⊢
  exact fun h2 => hp (lt_of_le_lt (rises_le h i j hij hj) h2)
set_option maxRecDepth 100000 in
set_option maxHeartbeats 800000 in
theorem from_calls (w : World) (g : Nat) (l : List T) (s : ByteArray) (hs : DictAt w g l) (hr : l.Pairwise (· < ·)) (hl : l.length ≤ 4611686018427387904) :
    Calls Try.prog 17 #[.pointer (some ⟨g, 0, none⟩), .string s] w fun e w' => e = .returned (.int .i64 (fromOf l s.data.toList : Nat)) ∧ Below w.heap.size w w' := by
  have HS := Aside0.mk hs
  have HR := Aside0.mk hr
  have HL := Aside0.mk hl
  clear hs hr hl
  have hmf : ∀ (fn : Fn) (first cap : Array Value) (w : World), (Instr.makeFunc fn first cap).run Try.prog w = .ok (.func fn first cap) w := fun _ _ _ _ => rfl
  go_enter Try.func17, Try.ntmps17
  go_wp2_with fail
  have hb1 : Below w.heap.size w ((w.alloc (.cells #[.pointer (some ⟨g, 0, none⟩)] 25)).alloc (.cells #[.string s] 9)) := ((Below.refl _ _).alloc (Nat.le_refl _) _).alloc (by simp) _
  have HS1 := Aside0.mk (HS.out.below hb1)
  have HB1 := Aside0.mk hb1
  have hp : ((w.alloc (.cells #[.pointer (some ⟨g, 0, none⟩)] 25)).alloc (.cells #[.string s] 9)).cell? ⟨w.heap.size, 0, none⟩ = some (.pointer (some ⟨g, 0, none⟩)) := by go_simp
  have hq : ((w.alloc (.cells #[.pointer (some ⟨g, 0, none⟩)] 25)).alloc (.cells #[.string s] 9)).cell? ⟨w.heap.size + 1, 0, none⟩ = some (.string s) := by go_simp
  clear hb1
  generalize ((w.alloc (.cells #[.pointer (some ⟨g, 0, none⟩)] 25)).alloc (.cells #[.string s] 9)) = w1 at *
  refine (len_calls w1 g l HS1.out).mono ?_
  rintro e w2 ⟨rfl, rfl⟩
  go_wp2_with fail
  refine (search_calls l.length w1 33 _ #[.pointer (some ⟨w.heap.size, 0, none⟩), .pointer (some ⟨w.heap.size + 1, 0, none⟩)] Try.func33 (by kernel_rfl) rfl HL.out (fun i => !decide (l.getD i [] < s.data.toList))
    (fun i w' hi hb => from_word w' _ _ g l s (pw_cell_below hb hp) (pw_cell_below hb hq) (HS1.out.below hb) i hi) (fun i j hij hj => mono_from HR.out _ i j hij hj)).mono ?_
  rintro e w2 ⟨k, rfl, hk, h1, h2, hd⟩
  have HE := Aside0.mk (fromOf_is l s.data.toList k hk (fun i hi => by have := h1 i hi; simpa using this) (fun h => by have := h2 h; simpa using this))
  have HB2 := Aside0.mk (below_then HB1.out HB1.out.size hd.below)
  clear h1 h2 hd
  go_wp2_with fail
  go_ret
  exact ⟨by rw [← HE.out]; rfl, HB2.out⟩
set_option maxRecDepth 100000 in
set_option maxHeartbeats 400000 in
theorem from_none (s : ByteArray) (w : World) :
    Calls Try.prog 17 #[.pointer none, .string s] w fun e w' => e = .returned (.int .i64 0) ∧ Below w.heap.size w w' := by
  have hmf : ∀ (fn : Fn) (first cap : Array Value) (w : World), (Instr.makeFunc fn first cap).run Try.prog w = .ok (.func fn first cap) w := fun _ _ _ _ => rfl
  go_enter Try.func17, Try.ntmps17
  go_wp2_with fail
  have hb1 : Below w.heap.size w ((w.alloc (.cells #[.pointer none] 25)).alloc (.cells #[.string s] 9)) := ((Below.refl _ _).alloc (Nat.le_refl _) _).alloc (by simp) _
  have HB1 := Aside0.mk hb1
  clear hb1
  generalize ((w.alloc (.cells #[.pointer none] 25)).alloc (.cells #[.string s] 9)) = w1 at *
  refine (len_none w1).mono ?_
  rintro e w2 ⟨rfl, rfl⟩
  go_wp2_with fail
  refine (search_calls 0 w1 33 _ #[.pointer (some ⟨w.heap.size, 0, none⟩), .pointer (some ⟨w.heap.size + 1, 0, none⟩)] Try.func33 (by kernel_rfl) rfl (by decide) (fun i => true)
    (fun i w' hi hb => absurd hi (Nat.not_lt_zero _)) (fun i j hij hj => absurd hj (Nat.not_lt_zero _))).mono ?_
  rintro e w2 ⟨k, rfl, hk, -, -, hd⟩
  obtain rfl : k = 0 := by omega
  have HB2 := Aside0.mk (below_then HB1.out HB1.out.size hd.below)
  clear hd
  go_wp2_with fail
  go_ret
  exact ⟨rfl, HB2.out⟩
end Go.Proofs.Ytomgfhapmhagnaa.Txt
