/- Sets: And, Or, Not. -/
import Derived.Test.YtcgfheagbaafoaaDoorMade
namespace Go.Proofs.YtcgfheagbaafoaaDoor.Sets
set_option linter.unusedVariables false
set_option linter.unusedSimpArgs false
open Go.RowKit Go.Proofs.YtcgfheagbaafoaaDoorW.PrintWords Go.Proofs.YtcgfheagbaafoaaDoorW.PrintLast Go.Proofs.YtcgfheagbaafoaaDoorW.PrintMore Go.Proofs.YtcgfheagbaafoaaDoor.Lib Go.Proofs.YtcgfheagbaafoaaDoor.Pack Go.Proofs.YtcgfheagbaafoaaDoor.PackA

/-- A set lies in block g, with just these rows. -/
def FSet (w : World) (base g rows : Nat) (f : Nat → Bool) : Prop := SetAt w base g rows (wordsF f rows)
theorem FSet.below {w w' : World} {base g rows : Nat} {f : Nat → Bool} (h : FSet w base g rows f) (hb : Below w.heap.size w w') : FSet w' base g rows f := SetAt.below h hb
theorem FSet.word {w : World} {base g rows : Nat} {f : Nat → Bool} (h : FSet w base g rows f) (k : Nat) (hk : k < long64 rows) : ∃ ad c, w.cell? ⟨g, 1, none⟩ = some (.slice (some ad) (long64 rows) c) ∧ w.cell? (ad.add k) = some (.int .u64 (wordF f rows k : Nat)) := by
  obtain ⟨A, c, -, c1, hC, -⟩ := SetAt.cells h
  rw [wordsF_length] at c1 hC
  obtain ⟨ad, e, hcell⟩ := Kd.at_int hC k (by omega) (by omega)
  subst e
  rw [Int.toNat_natCast, rd_nat, wordsF_get f rows k hk] at hcell
  exact ⟨ad, c, c1, hcell⟩

set_option maxRecDepth 100000 in
set_option maxHeartbeats 400000 in
theorem and_word (w : World) (p q base g base' g' rows : Nat) (f f' : Nat → Bool) (hp : w.cell? ⟨p, 0, none⟩ = some (.pointer (some ⟨g, 0, none⟩))) (hq : w.cell? ⟨q, 0, none⟩ = some (.pointer (some ⟨g', 0, none⟩)))
    (hs : FSet w base g rows f) (ht : FSet w base' g' rows f') (k : Nat) (hk : k < long64 rows) :
    Calls Tryd.prog 29 #[.int .i64 k, .pointer (some ⟨p, 0, none⟩), .pointer (some ⟨q, 0, none⟩)] w fun e w' => e = .returned (.int .u64 (wordF f rows k &&& wordF f' rows k : Nat)) ∧ Drawn0 w w' := by
  obtain ⟨ad, c, h1, h2⟩ := hs.word k hk
  obtain ⟨ad', c', h3, h4⟩ := ht.word k hk
  have HA := Aside0.mk (and64 _ _ (wordF_lt f rows k) (wordF_lt f' rows k))
  have hn : long64 rows ≤ 16385 := by have := hs.2.1; unfold long64; omega
  clear hs ht
  generalize wordF f rows k = x at *
  generalize wordF f' rows k = y at *
  generalize long64 rows = n at *
  have hki : (k : Int) < (n : Int) := by omega
  go_enter Tryd.func29, Tryd.ntmps29
  go_wp2_with fail
  go_quiet (fail)
  go_wp2_with fail
  go_ret
  first | exact ⟨rfl, ⟨_, rfl⟩⟩ | exact ⟨by show Ending.returned (.int .u64 _) = _; rw [HA.out], ⟨_, rfl⟩⟩
set_option maxRecDepth 100000 in
set_option maxHeartbeats 400000 in
theorem or_word (w : World) (p q base g base' g' rows : Nat) (f f' : Nat → Bool) (hp : w.cell? ⟨p, 0, none⟩ = some (.pointer (some ⟨g, 0, none⟩))) (hq : w.cell? ⟨q, 0, none⟩ = some (.pointer (some ⟨g', 0, none⟩)))
    (hs : FSet w base g rows f) (ht : FSet w base' g' rows f') (k : Nat) (hk : k < long64 rows) :
    Calls Tryd.prog 30 #[.int .i64 k, .pointer (some ⟨p, 0, none⟩), .pointer (some ⟨q, 0, none⟩)] w fun e w' => e = .returned (.int .u64 (wordF f rows k ||| wordF f' rows k : Nat)) ∧ Drawn0 w w' := by
  obtain ⟨ad, c, h1, h2⟩ := hs.word k hk
  obtain ⟨ad', c', h3, h4⟩ := ht.word k hk
  have HA := Aside0.mk ((bits_nat .u64 64 (by decide) wraps_u64 (wordF f rows k) (wordF f' rows k) (wordF_lt f rows k) (wordF_lt f' rows k)).2)
  have hn : long64 rows ≤ 16385 := by have := hs.2.1; unfold long64; omega
  clear hs ht
  generalize wordF f rows k = x at *
  generalize wordF f' rows k = y at *
  generalize long64 rows = n at *
  have hki : (k : Int) < (n : Int) := by omega
  go_enter Tryd.func30, Tryd.ntmps30
  go_wp2_with fail
  go_quiet (fail)
  go_wp2_with fail
  go_ret
  first | exact ⟨rfl, ⟨_, rfl⟩⟩ | exact ⟨by show Ending.returned (.int .u64 _) = _; rw [HA.out], ⟨_, rfl⟩⟩
theorem compl_bit (x : Nat) (hx : x < 18446744073709551616) (j : Nat) (hj : j < 64) : (18446744073709551615 - x).testBit j = !x.testBit j := by
  have e := xor_ones 64 x hx
  have e2 : (18446744073709551615 : Nat) = 2 ^ 64 - 1 := by decide
  rw [e2, ← e, Nat.testBit_xor, Nat.testBit_two_pow_sub_one]
  simp [hj]
set_option maxRecDepth 100000 in
set_option maxHeartbeats 400000 in
theorem not_word (w : World) (p base g rows : Nat) (f : Nat → Bool) (hp : w.cell? ⟨p, 0, none⟩ = some (.pointer (some ⟨g, 0, none⟩)))
    (hs : FSet w base g rows f) (k : Nat) (hk : k < long64 rows) :
    Calls Tryd.prog 40 #[.int .i64 k, .pointer (some ⟨p, 0, none⟩)] w fun e w' => e = .returned (.int .u64 (18446744073709551615 - wordF f rows k : Nat)) ∧ Drawn0 w w' := by
  obtain ⟨ad, c, h1, h2⟩ := hs.word k hk
  have hx := wordF_lt f rows k
  have hn : long64 rows ≤ 16385 := by have := hs.2.1; unfold long64; omega
  clear hs
  generalize wordF f rows k = x at *
  generalize long64 rows = n at *
  have HX : Aside0 (bits .xor .u64 IntKind.u64.max (x : Int) = ((18446744073709551615 - x : Nat) : Int)) := ⟨by
    have e : IntKind.u64.max = ((18446744073709551615 : Nat) : Int) := by decide
    rw [e, xor_u64 _ _ (by decide) hx, Nat.xor_comm]
    exact congrArg Nat.cast (xor_ones 64 x hx)⟩
  have hki : (k : Int) < (n : Int) := by omega
  go_enter Tryd.func40, Tryd.ntmps40
  go_wp2_with fail
  go_ret
  refine ⟨?_, 0, rfl⟩
  show Ending.returned (.int .u64 (bits .xor .u64 IntKind.u64.max (x : Int))) = _
  rw [HX.out]
set_option maxRecDepth 100000 in
set_option maxHeartbeats 400000 in
theorem like_calls (w : World) (base g base' g' rows rows' : Nat) (ws ws' : List Int) (hs : SetAt w base g rows ws) (ht : SetAt w base' g' rows' ws') :
    Calls Tryd.prog 27 #[.pointer (some ⟨g, 0, none⟩), .pointer (some ⟨g', 0, none⟩)] w fun e w' => e = .returned (.bool (decide (rows = rows'))) ∧ Drawn0 w w' := by
  obtain ⟨A, c, c0, -, -, -⟩ := hs.cells
  obtain ⟨A', c', d0, -, -, -⟩ := ht.cells
  have HE : Aside0 (((rows : Int) == (rows' : Int)) = decide (rows = rows')) := ⟨by rw [Bool.eq_iff_iff, beq_iff_eq, decide_eq_true_iff]; omega⟩
  clear hs ht
  go_enter Tryd.func27, Tryd.ntmps27
  go_wp2_with fail
  go_quiet (fail)
  go_wp2_with fail
  go_ret
  exact ⟨by rw [← HE.out]; rfl, ⟨_, rfl⟩⟩

set_option maxRecDepth 100000 in
set_option maxHeartbeats 800000 in
theorem and_calls (w : World) (base g base' g' rows : Nat) (f f' : Nat → Bool) (hs : FSet w base g rows f) (ht : FSet w base' g' rows f') :
    Calls Tryd.prog 10 #[.pointer (some ⟨g, 0, none⟩), .pointer (some ⟨g', 0, none⟩)] w fun e w' => ∃ g2, e = .returned (.tuple #[.pointer (some ⟨g2, 0, none⟩), .int .i64 0]) ∧ FSet w' w.heap.size g2 rows (fun i => f i && f' i) ∧ Below w.heap.size w w' := by
  have HS := Aside0.mk hs
  have HT := Aside0.mk ht
  clear hs ht
  have hmf : ∀ (fn : Fn) (first cap : Array Value) (w : World), (Instr.makeFunc fn first cap).run Tryd.prog w = .ok (.func fn first cap) w := fun _ _ _ _ => rfl
  go_enter Tryd.func10, Tryd.ntmps10
  go_wp2_with fail
  have hb1 : Below w.heap.size w ((w.alloc (.cells #[.pointer (some ⟨g, 0, none⟩)] 25)).alloc (.cells #[.pointer (some ⟨g', 0, none⟩)] 25)) := ((Below.refl _ _).alloc (Nat.le_refl _) _).alloc (by simp) _
  have HS1 := Aside0.mk (HS.out.below hb1)
  have HT1 := Aside0.mk (HT.out.below hb1)
  have HB1 := Aside0.mk hb1
  have hp : ((w.alloc (.cells #[.pointer (some ⟨g, 0, none⟩)] 25)).alloc (.cells #[.pointer (some ⟨g', 0, none⟩)] 25)).cell? ⟨w.heap.size, 0, none⟩ = some (.pointer (some ⟨g, 0, none⟩)) := by go_simp
  have hq : ((w.alloc (.cells #[.pointer (some ⟨g, 0, none⟩)] 25)).alloc (.cells #[.pointer (some ⟨g', 0, none⟩)] 25)).cell? ⟨w.heap.size + 1, 0, none⟩ = some (.pointer (some ⟨g', 0, none⟩)) := by go_simp
  have hz : ((w.alloc (.cells #[.pointer (some ⟨g, 0, none⟩)] 25)).alloc (.cells #[.pointer (some ⟨g', 0, none⟩)] 25)).heap.size = w.heap.size + 2 := by simp
  clear hb1
  generalize ((w.alloc (.cells #[.pointer (some ⟨g, 0, none⟩)] 25)).alloc (.cells #[.pointer (some ⟨g', 0, none⟩)] 25)) = w1 at *
  refine (like_calls w1 _ g _ g' rows rows _ _ HS1.out HT1.out).mono ?_
  rw [decide_eq_true (rfl : rows = rows)]
  rintro e w2 ⟨rfl, hd⟩
  have hp2 := pw_cell_below hd.below hp
  have hq2 := pw_cell_below hd.below hq
  have HS2 := Aside0.mk (HS1.out.below hd.below)
  have HT2 := Aside0.mk (HT1.out.below hd.below)
  have HB2 := Aside0.mk (below_then HB1.out HB1.out.size hd.below)
  clear hp hq hd HS1 HT1 HB1
  have HZ := Aside0.mk hz
  clear hz
  go_wp2_with fail
  refine (made_calls w2 _ g rows _ HS2.out 29 _ #[.pointer (some ⟨w.heap.size, 0, none⟩), .pointer (some ⟨w.heap.size + 1, 0, none⟩)] Tryd.func29 (by kernel_rfl) rfl (fun k => wordF f rows k &&& wordF f' rows k) (fun i => f i && f' i) (fun k _ => Nat.and_lt_two_pow (n := 64) _ (wordF_lt _ _ _))
    (fun k j hj hk => by rw [Nat.testBit_and, wordF_bit, wordF_bit]; simp [hj, hk])
    (fun k w' hk hb => and_word w' _ _ _ g _ g' rows f f' (pw_cell_below hb hp2) (pw_cell_below hb hq2) (HS2.out.below hb) (HT2.out.below hb) k hk)).mono ?_
  rintro e w3 ⟨g2, rfl, hs, hb⟩
  have HB3 := Aside0.mk (below_then HB2.out HB2.out.size hb)
  have HS3 := Aside0.mk (SetAt.lower hs HB2.out.size)
  clear hs hb
  go_wp2_with fail
  go_ret2
  exact ⟨g2, rfl, HS3.out, HB3.out⟩

set_option maxRecDepth 100000 in
set_option maxHeartbeats 800000 in
theorem or_calls (w : World) (base g base' g' rows : Nat) (f f' : Nat → Bool) (hs : FSet w base g rows f) (ht : FSet w base' g' rows f') :
    Calls Tryd.prog 11 #[.pointer (some ⟨g, 0, none⟩), .pointer (some ⟨g', 0, none⟩)] w fun e w' => ∃ g2, e = .returned (.tuple #[.pointer (some ⟨g2, 0, none⟩), .int .i64 0]) ∧ FSet w' w.heap.size g2 rows (fun i => f i || f' i) ∧ Below w.heap.size w w' := by
  have HS := Aside0.mk hs
  have HT := Aside0.mk ht
  clear hs ht
  have hmf : ∀ (fn : Fn) (first cap : Array Value) (w : World), (Instr.makeFunc fn first cap).run Tryd.prog w = .ok (.func fn first cap) w := fun _ _ _ _ => rfl
  go_enter Tryd.func11, Tryd.ntmps11
  go_wp2_with fail
  have hb1 : Below w.heap.size w ((w.alloc (.cells #[.pointer (some ⟨g, 0, none⟩)] 25)).alloc (.cells #[.pointer (some ⟨g', 0, none⟩)] 25)) := ((Below.refl _ _).alloc (Nat.le_refl _) _).alloc (by simp) _
  have HS1 := Aside0.mk (HS.out.below hb1)
  have HT1 := Aside0.mk (HT.out.below hb1)
  have HB1 := Aside0.mk hb1
  have hp : ((w.alloc (.cells #[.pointer (some ⟨g, 0, none⟩)] 25)).alloc (.cells #[.pointer (some ⟨g', 0, none⟩)] 25)).cell? ⟨w.heap.size, 0, none⟩ = some (.pointer (some ⟨g, 0, none⟩)) := by go_simp
  have hq : ((w.alloc (.cells #[.pointer (some ⟨g, 0, none⟩)] 25)).alloc (.cells #[.pointer (some ⟨g', 0, none⟩)] 25)).cell? ⟨w.heap.size + 1, 0, none⟩ = some (.pointer (some ⟨g', 0, none⟩)) := by go_simp
  have hz : ((w.alloc (.cells #[.pointer (some ⟨g, 0, none⟩)] 25)).alloc (.cells #[.pointer (some ⟨g', 0, none⟩)] 25)).heap.size = w.heap.size + 2 := by simp
  clear hb1
  generalize ((w.alloc (.cells #[.pointer (some ⟨g, 0, none⟩)] 25)).alloc (.cells #[.pointer (some ⟨g', 0, none⟩)] 25)) = w1 at *
  refine (like_calls w1 _ g _ g' rows rows _ _ HS1.out HT1.out).mono ?_
  rw [decide_eq_true (rfl : rows = rows)]
  rintro e w2 ⟨rfl, hd⟩
  have hp2 := pw_cell_below hd.below hp
  have hq2 := pw_cell_below hd.below hq
  have HS2 := Aside0.mk (HS1.out.below hd.below)
  have HT2 := Aside0.mk (HT1.out.below hd.below)
  have HB2 := Aside0.mk (below_then HB1.out HB1.out.size hd.below)
  clear hp hq hd HS1 HT1 HB1
  have HZ := Aside0.mk hz
  clear hz
  go_wp2_with fail
  refine (made_calls w2 _ g rows _ HS2.out 30 _ #[.pointer (some ⟨w.heap.size, 0, none⟩), .pointer (some ⟨w.heap.size + 1, 0, none⟩)] Tryd.func30 (by kernel_rfl) rfl (fun k => wordF f rows k ||| wordF f' rows k) (fun i => f i || f' i) (fun k _ => Nat.or_lt_two_pow (n := 64) (wordF_lt _ _ _) (wordF_lt _ _ _))
    (fun k j hj hk => by rw [Nat.testBit_or, wordF_bit, wordF_bit]; simp [hj, hk])
    (fun k w' hk hb => or_word w' _ _ _ g _ g' rows f f' (pw_cell_below hb hp2) (pw_cell_below hb hq2) (HS2.out.below hb) (HT2.out.below hb) k hk)).mono ?_
  rintro e w3 ⟨g2, rfl, hs, hb⟩
  have HB3 := Aside0.mk (below_then HB2.out HB2.out.size hb)
  have HS3 := Aside0.mk (SetAt.lower hs HB2.out.size)
  clear hs hb
  go_wp2_with fail
  go_ret2
  exact ⟨g2, rfl, HS3.out, HB3.out⟩

set_option maxRecDepth 100000 in
set_option maxHeartbeats 800000 in
theorem not_calls (w : World) (base g rows : Nat) (f : Nat → Bool) (hs : FSet w base g rows f) :
    Calls Tryd.prog 21 #[.pointer (some ⟨g, 0, none⟩)] w fun e w' => ∃ g2, e = .returned (.pointer (some ⟨g2, 0, none⟩)) ∧ FSet w' w.heap.size g2 rows (fun i => !f i) ∧ Below w.heap.size w w' := by
  have HS := Aside0.mk hs
  clear hs
  have hmf : ∀ (fn : Fn) (first cap : Array Value) (w : World), (Instr.makeFunc fn first cap).run Tryd.prog w = .ok (.func fn first cap) w := fun _ _ _ _ => rfl
  go_enter Tryd.func21, Tryd.ntmps21
  go_wp2_with fail
  have hb1 : Below w.heap.size w (w.alloc (.cells #[.pointer (some ⟨g, 0, none⟩)] 25)) := (Below.refl _ _).alloc (Nat.le_refl _) _
  have HS1 := Aside0.mk (HS.out.below hb1)
  have HB1 := Aside0.mk hb1
  have hp : (w.alloc (.cells #[.pointer (some ⟨g, 0, none⟩)] 25)).cell? ⟨w.heap.size, 0, none⟩ = some (.pointer (some ⟨g, 0, none⟩)) := by go_simp
  clear hb1
  generalize (w.alloc (.cells #[.pointer (some ⟨g, 0, none⟩)] 25)) = w2 at *
  refine (made_calls w2 _ g rows _ HS1.out 40 _ #[.pointer (some ⟨w.heap.size, 0, none⟩)] Tryd.func40 (by kernel_rfl) rfl (fun k => 18446744073709551615 - wordF f rows k) (fun i => !f i) (fun k _ => by show 18446744073709551615 - wordF f rows k < _; omega)
    (fun k j hj hk => by rw [compl_bit _ (wordF_lt f rows k) j hj, wordF_bit]; simp [hj, hk])
    (fun k w' hk hb => not_word w' _ _ g rows f (pw_cell_below hb hp) (HS1.out.below hb) k hk)).mono ?_
  rintro e w3 ⟨g2, rfl, hs, hb⟩
  have HB3 := Aside0.mk (below_then HB1.out HB1.out.size hb)
  have HS3 := Aside0.mk (SetAt.lower hs HB1.out.size)
  clear hs hb
  go_wp2_with fail
  go_ret
  exact ⟨g2, rfl, HS3.out, HB3.out⟩

set_option maxRecDepth 100000 in
set_option maxHeartbeats 400000 in
theorem not_none (w : World) :
    Calls Tryd.prog 21 #[.pointer none] w fun e w' => e = .returned (.pointer none) ∧ Below w.heap.size w w' := by
  go_enter Tryd.func21, Tryd.ntmps21
  go_wp2_with fail
  go_ret
  exact ⟨rfl, (Below.refl _ _).alloc (Nat.le_refl _) _⟩
end Go.Proofs.YtcgfheagbaafoaaDoor.Sets
