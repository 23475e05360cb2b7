/- Dictionaries: awake. -/
import Derived.Test.YtomgfhapmhagnaaDictC
import Derived.Test.YtomgfhapmhagnaaDict2
import Derived.ShutString
namespace Go.Proofs.Ytomgfhapmhagnaa.Txt
set_option linter.unusedVariables false
set_option linter.unusedSimpArgs false
open Go.RowKit Go.Proofs.YtomgfhapmhagnaaW.PrintWords Go.Proofs.YtomgfhapmhagnaaW.PrintLast Go.Proofs.YtomgfhapmhagnaaW.PrintMore Go.Proofs.Ytomgfhapmhagnaa.Lib Go.Proofs.Ytomgfhapmhagnaa.Bas

theorem rises_eq : ∀ {l m : List T}, l.Pairwise (· < ·) → m.Pairwise (· < ·) → (∀ y, y ∈ l ↔ y ∈ m) → l = m
  | [], [], _, _, _ => rfl
  | [], y :: m, _, _, h => absurd ((h y).2 (by simp)) (by simp)
  | x :: l, [], _, _, h => absurd ((h x).1 (by simp)) (by simp)
  | x :: l, y :: m, h1, h2, h => by
    rw [List.pairwise_cons] at h1 h2
    have e : x = y := by
      have a := (h x).1 (by simp)
      have b := (h y).2 (by simp)
      rw [List.mem_cons] at a b
      rcases a with a | a
      · exact a
      · rcases b with b | b
        · exact b.symm
        · exact absurd (lt_trans (h1.1 y b) (h2.1 x a)) (lt_irrefl x)
    subst e
    congr 1
    refine rises_eq h1.2 h2.2 (fun z => ?_)
    constructor
    · intro hz
      have := (h z).1 (by simp [hz])
      rw [List.mem_cons] at this
      rcases this with rfl | h3
      · exact absurd (h1.1 z hz) (lt_irrefl z)
      · exact h3
    · intro hz
      have := (h z).2 (by simp [hz])
      rw [List.mem_cons] at this
      rcases this with rfl | h3
      · exact absurd (h2.1 z hz) (lt_irrefl z)
      · exact h3
theorem build_fit {ts l : List T} (h : build ts = some l) : l = built ts ∧ l.length ≤ 4096 ∧ (∀ t ∈ l, t.length ≤ 64) ∧ l.Pairwise (· < ·) := by
  unfold build at h
  split at h
  · cases h
  · rename_i h1
    split at h
    · cases h
    · rename_i h2
      injection h with h
      subst h
      refine ⟨rfl, by omega, fun t ht => ?_, built_rises ts⟩
      rw [built_mem] at ht
      unfold tooLong at h1
      rw [Bool.not_eq_true, List.any_eq_false] at h1
      have := h1 t ht
      simpa using this
def w4 : List T := [[98], [97, 98], [98], [97, 98, 99]]
def w3 : List T := [[97, 98], [97, 98, 99], [98]]
theorem w3_rises : w3.Pairwise (· < ·) := by unfold w3; decide +kernel
theorem w4_built : built w4 = w3 := by
  refine rises_eq (built_rises _) w3_rises (fun y => ?_)
  rw [built_mem]
  unfold w3 w4
  simp only [List.mem_cons, List.not_mem_nil, or_false]
  constructor <;> (intro h; rcases h with h | h | h | h <;> simp_all) 
theorem w4_build : build w4 = some w3 := by
  unfold build
  rw [w4_built]
  rw [if_neg (by decide +kernel), if_neg (by decide +kernel)]
theorem awake_facts : has w3 [98] = true ∧ fromOf w3 [98] = 2 ∧ fromOf w3 [97, 98] = 0 ∧ runOf w3 [97, 98] = 2 ∧ fromOf w3 [97, 98, 100] = 2 ∧ dictBytes w3 = [3, 0, 2, 97, 98, 2, 1, 99, 0, 1, 98] ∧ w3.getD 0 [] = [97, 98] ∧ w3.length = 3 := by
  refine ⟨?_, ?_, ?_, ?_, ?_, ?_, ?_, ?_⟩ <;> decide +kernel

theorem text_new (w : World) : text.C (w.alloc (.cells #[.string ⟨#[98]⟩, .string ⟨#[97, 98]⟩, .string ⟨#[98]⟩, .string ⟨#[97, 98, 99]⟩] 9)) (some ⟨w.heap.size, 0, none⟩) 4 w4 := by
  refine Kd.C_of_reads (d := []) ⟨rfl, by decide, fun _ => ⟨_, rfl, fun j hj => ?_⟩⟩
  rcases j with _ | _ | _ | _ | j
  · exact show (w.alloc _).cell? ⟨w.heap.size, 0, none⟩ = _ by go_simp <;> rfl
  · exact show (w.alloc _).cell? ⟨w.heap.size, 1, none⟩ = _ by go_simp <;> rfl
  · exact show (w.alloc _).cell? ⟨w.heap.size, 2, none⟩ = _ by go_simp <;> rfl
  · exact show (w.alloc _).cell? ⟨w.heap.size, 3, none⟩ = _ by go_simp <;> rfl
  · omega

set_option maxRecDepth 100000 in
set_option maxHeartbeats 1600000 in
theorem awake_calls (w : World) :
    Calls Try.prog 9 #[] w fun e w' => e = .returned (.bool true) ∧ Below w.heap.size w w' := by
  have HF := Aside0.mk awake_facts
  have htl : (bs [97, 98]).toList = [97, 98] := by rw [ByteArray.toList_eq, bs_data]
  go_enter Try.func9, Try.ntmps9
  go_wp2_with fail
  have HC1 := Aside0.mk (text_new w)
  have HB1 := Aside0.mk (show Below w.heap.size w _ from (Below.refl _ _).alloc (Nat.le_refl _) (.cells #[.string ⟨#[98]⟩, .string ⟨#[97, 98]⟩, .string ⟨#[98]⟩, .string ⟨#[97, 98, 99]⟩] 9))
  generalize w.alloc _ = w1 at *
  refine (build_calls w4 (some ⟨w.heap.size, 0, none⟩) 4 4 w1 HC1.out (by decide)).mono ?_
  rw [w4_build]
  rintro e w2 ⟨⟨g, rfl, hg, hs⟩, hb⟩
  have HS2 := Aside0.mk hs
  have HB2 := Aside0.mk (below_then HB1.out HB1.out.size hb)
  clear hs hb hg
  go_wp2_with fail
  refine (text_calls w2 g w3 HS2.out 0 (by decide)).mono ?_
  rw [HF.out.2.2.2.2.2.2.1]
  rintro e w3' ⟨rfl, rfl⟩
  go_wp2_with fail
  refine (id_calls w2 g w3 ⟨#[98]⟩ HS2.out w3_rises (by decide)).mono ?_
  rw [show (⟨#[98]⟩ : ByteArray).data.toList = [98] from rfl, HF.out.1, if_pos rfl, HF.out.2.1]
  rintro e w4 ⟨rfl, hb⟩
  have HS4 := Aside0.mk (HS2.out.below hb)
  have HB4 := Aside0.mk (below_then HB2.out HB2.out.size hb)
  clear hb HS2 HB2
  go_wp2_with fail
  refine (begin_calls w4 g w3 ⟨#[97, 98]⟩ HS4.out w3_rises (by decide)).mono ?_
  rw [show (⟨#[97, 98]⟩ : ByteArray).data.toList = [97, 98] from rfl, HF.out.2.2.1, HF.out.2.2.2.1]
  rintro e w5 ⟨rfl, hb⟩
  have HS5 := Aside0.mk (HS4.out.below hb)
  have HB5 := Aside0.mk (below_then HB4.out HB4.out.size hb)
  clear hb HS4 HB4
  go_wp2_with fail
  refine (len_calls w5 g w3 HS5.out).mono ?_
  rw [HF.out.2.2.2.2.2.2.2]
  rintro e w6 ⟨rfl, rfl⟩
  go_wp2_with fail
  refine (from_calls w5 g w3 ⟨#[97, 98, 100]⟩ HS5.out w3_rises (by decide)).mono ?_
  rw [show (⟨#[97, 98, 100]⟩ : ByteArray).data.toList = [97, 98, 100] from rfl, HF.out.2.2.2.2.1]
  rintro e w6 ⟨rfl, hb⟩
  have HS6 := Aside0.mk (HS5.out.below hb)
  have HB6 := Aside0.mk (below_then HB5.out HB5.out.size hb)
  clear hb HS5 HB5
  go_wp2_with fail
  refine (bytes_calls w6 g w3 HS6.out (by decide) (by decide)).mono ?_
  rw [HF.out.2.2.2.2.2.1]
  rintro e w7 ⟨v7, rfl, ho, hb⟩
  obtain ⟨A7, c7, rfl, hc7, hC7⟩ := Kd.R_reads ho
  have hs7 := Kd.C_string Try.underlying43 Try.underlying5 Try.underlying9 (c := c7) (show Kd.C (Kd.int .u8) w7 A7 11 [3, 0, 2, 97, 98, 2, 1, 99, 0, 1, 98] from hC7)
  rw [show strOfNums [3, 0, 2, 97, 98, 2, 1, 99, 0, 1, 98] = ⟨#[3, 0, 2, 97, 98, 2, 1, 99, 0, 1, 98]⟩ from rfl] at hs7
  have HB7 := Aside0.mk (below_then HB6.out HB6.out.size hb)
  clear ho hb hC7 HS6 HB6
  go_wp2_with fail
  go_ret
  exact ⟨rfl, HB7.out⟩
end Go.Proofs.Ytomgfhapmhagnaa.Txt
