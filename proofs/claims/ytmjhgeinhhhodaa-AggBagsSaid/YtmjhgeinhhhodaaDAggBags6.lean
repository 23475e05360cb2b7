/- Texts of this repo, joined, without what this claim does not use: Of, Put6, Of6, Bag6, Bag6b, OpenK, OpenAgg, OpenMany, LawAggBags. -/
import Derived.Test.YtmjhgeinhhhodaaDAggBags1
import Derived.Test.YtmjhgeinhhhodaaDAggBags2
import Derived.Test.YtmjhgeinhhhodaaDAggBags3
import Derived.Test.YtmjhgeinhhhodaaDAggBags4
import Derived.Test.YtmjhgeinhhhodaaDAggBags5
import Derived.SizedLaws
import Derived.Deep.Slices
import Derived.Test.YtmjhgeinhhhodaaRows
import Derived.ProofKit
import Derived.OpenShut
section
namespace Go.Proofs.Ytmjhgeinhhhodaa.Ext
set_option linter.unusedVariables false
set_option linter.unusedSimpArgs false
open Go.RowKit Go.Proofs.YtmjhgeinhhhodaaW.PrintWords Go.Proofs.Ytmjhgeinhhhodaa.P Go.Proofs.Ytmjhgeinhhhodaa.Txt
theorem rd44 (l : List S44) (j : Nat) (hj : j < l.length) : rd_T44 l (j : Int) = l[j] := by unfold rd_T44; simp [hj]
theorem sp_t_len {c c1 : Int} (hc : 1 ≤ c ∧ c ≤ 5) (h1 : 0 ≤ c1 ∧ c1 < 2) (l : List S44) : FitL l → l.length ≤ 1000 → (sp c c1 l).t.length ≤ l.length := by
  refine snoc_ind (P := fun l => FitL l → l.length ≤ 1000 → (sp c c1 l).t.length ≤ l.length) (fun _ _ => Nat.le_refl _) (fun l m ih hf hl => ?_) l
  rw [List.length_append, List.length_singleton] at hl ⊢
  have hf' : FitL l := fun z hz => hf z (by simp [hz])
  have hm := hf m (by simp)
  have h := ih hf' (by omega)
  have hs := sp_fit hc h1 l hf' (by omega)
  have hu := unit_fit hc h1 hm
  have hul : (unit c c1 m).t.length ≤ 1 := by
    unfold unit
    split
    · exact Nat.zero_le _
    · split
      · exact Nat.zero_le _
      · split
        · exact Nat.le_refl _
        · exact Nat.zero_le _
  rw [sp_snoc]
  unfold mg
  by_cases hpz : (sp c c1 l).n = 0
  · by_cases hqz : (unit c c1 m).n = 0
    · rw [if_pos hpz, if_pos hqz]; exact Nat.zero_le _
    · rw [if_pos hpz, if_neg hqz]
      show (builtB (unit c c1 m).t).length ≤ _
      rw [hu.bt]; omega
  · by_cases hqz : (unit c c1 m).n = 0
    · rw [if_neg hpz, if_pos hqz]
      show (builtB (sp c c1 l).t).length ≤ _
      rw [hs.bt]; omega
    · rw [if_neg hpz, if_neg hqz]
      have := built_length ((sp c c1 l).t ++ (unit c c1 m).t)
      rw [List.length_append] at this
      show (builtB ((sp c c1 l).t ++ (unit c c1 m).t)).length ≤ _
      omega
theorem take_snoc (l : List S44) (j : Nat) (hj : j < l.length) : l.take (j + 1) = l.take j ++ [l[j]] := List.take_succ_eq_append_getElem hj
theorem FitL.take {l : List S44} (h : FitL l) (j : Nat) : FitL (l.take j) := fun m hm => h m (List.mem_of_mem_take hm)
theorem of_step {c c1 b : Int} (hc : 1 ≤ c ∧ c ≤ 5) (h1 : 0 ≤ c1 ∧ c1 < 2) (l : List S44) (hf : FitL l) (hl : l.length ≤ 1000) (j k : Nat) (hj : j < l.length) (p : Pt) (hp : Fit c b p) (ht : p.t.length ≤ 1000) :
    gristmilllaw06_of.l0 (k + 1) l (j : Int) c c1 p.n p.v p.t = gristmilllaw06_of.l0 k l ((j + 1 : Nat) : Int) c c1 (mg c p (unit c c1 l[j])).n (mg c p (unit c c1 l[j])).v (mg c p (unit c c1 l[j])).t := by
  have e : wrap64 ((j : Int) + 1) = ((j + 1 : Nat) : Int) := by unfold wrap64; omega
  have ha := add_is hc h1 hp (hf _ (List.getElem_mem hj)) (Nat.lt_of_le_of_lt (Nat.succ_le_succ ht) (by decide))
  have hi : (j : Int) < (l.length : Int) := Int.ofNat_lt.2 hj
  rw [gristmilllaw06_of.l0, if_pos hi, if_pos (Int.natCast_nonneg j), rd44 l j hj, ha, e]
  rfl
theorem of_end {c c1 : Int} (l : List S44) (k : Nat) (p : Pt) : gristmilllaw06_of.l0 (k + 1) l ((l.length : Nat) : Int) c c1 p.n p.v p.t = some (p.n, p.v, p.t) := by
  rw [gristmilllaw06_of.l0, if_neg (Int.lt_irrefl _)]
theorem of_loop {c c1 : Int} (hc : 1 ≤ c ∧ c ≤ 5) (h1 : 0 ≤ c1 ∧ c1 < 2) (l : List S44) (hf : FitL l) (hl : l.length ≤ 1000) : ∀ (n j : Nat), j + n = l.length → ∀ (k : Nat) (p : Pt), p = sp c c1 (l.take j) →
    gristmilllaw06_of.l0 (k + n + 1) l (j : Int) c c1 p.n p.v p.t = some ((sp c c1 l).n, (sp c c1 l).v, (sp c c1 l).t) := by
  intro n
  induction n with
  | zero =>
    intro j hj k p hp
    have e : l.take j = l := List.take_of_length_le (by omega)
    rw [e] at hp
    have hj' : j = l.length := by omega
    subst hj'
    rw [← hp]
    exact of_end l k p
  | succ n ih =>
    intro j hj k p hp
    have hjl : j < l.length := by omega
    have hlt : (l.take j).length ≤ 1000 := by rw [List.length_take]; omega
    have ht : p.t.length ≤ 1000 := by rw [hp]; exact Nat.le_trans (sp_t_len hc h1 (l.take j) (hf.take j) hlt) hlt
    have hfp := sp_fit hc h1 (l.take j) (hf.take j) hlt
    rw [← hp] at hfp
    have hs := of_step hc h1 l hf hl j (k + n + 1) hjl p hfp ht
    rw [show k + (n + 1) + 1 = (k + n + 1) + 1 by omega, hs]
    exact ih (j + 1) (by omega) k _ (by rw [take_snoc l j hjl, sp_snoc, hp])
theorem of_is {c c1 : Int} (hc : 1 ≤ c ∧ c ≤ 5) (h1 : 0 ≤ c1 ∧ c1 < 2) (l : List S44) (hf : FitL l) (hl : l.length ≤ 1000) (k : Nat) (hk : 1001 ≤ k) : gristmilllaw06_of.f k c c1 l = some ((sp c c1 l).n, (sp c c1 l).v, (sp c c1 l).t) := by
  have := of_loop hc h1 l hf hl l.length 0 (by omega) (k - l.length - 1) Pt.z rfl
  rw [show k - l.length - 1 + l.length + 1 = k by omega] at this
  unfold gristmilllaw06_of.f agg_Start.f
  exact this
theorem same_loop (n v : Int) (t : List ByteArray) (ht : t.length ≤ 100000) : ∀ (m j : Nat), j + m = t.length → ∀ k, gristmillref06_Same.l0 (k + m + 1) (j : Int) n v t n v t = some true
  | 0, j, hj, k => by rw [gristmillref06_Same.l0, if_neg (by omega)]
  | m + 1, j, hj, k => by
    have e : wrap64 ((j : Int) + 1) = ((j + 1 : Nat) : Int) := by unfold wrap64; omega
    rw [show k + (m + 1) + 1 = (k + m + 1) + 1 by omega, gristmillref06_Same.l0, if_pos (by omega), if_pos (by omega), if_pos (by omega), if_pos rfl, e]
    exact same_loop n v t ht m (j + 1) (by omega) k
theorem same_is (n v : Int) (t : List ByteArray) (ht : t.length ≤ 1000) (k : Nat) (hk : 1002 ≤ k) : gristmillref06_Same.f k n v t n v t = some true := by
  have := same_loop n v t (by omega) t.length 0 (by omega) (k - t.length - 2)
  unfold gristmillref06_Same.f
  rw [if_pos rfl, if_pos rfl, show k = (k - t.length - 2 + t.length + 1) + 1 by omega, gristmillref06_Same.j0]
  rw [if_neg (by simp)]
  exact this
theorem abs_is (n : Int) (h : (Lit.int .i64 n).wf = true) : ∃ m : Int, gristmilllaw06_abs.f n = some m ∧ 0 ≤ m := by
  simp only [Lit.wf, Bool.and_eq_true, decide_eq_true_eq] at h
  have h1 : -9223372036854775808 ≤ n := h.1
  have h2 : n ≤ 9223372036854775807 := by have := h.2; exact this
  unfold gristmilllaw06_abs.f
  by_cases hn : n < 0
  · rw [if_pos hn]
    refine ⟨_, rfl, ?_⟩
    unfold wrap64; omega
  · rw [if_neg hn]
    exact ⟨n, rfl, by omega⟩
theorem up_ {α : Type} (g : Nat → Option α) (h : ∀ k, LeO (g k) (g (k + 1))) {k0 k : Nat} {r : α} (h0 : g k0 = some r) (hk : k0 ≤ k) : g k = some r := by
  obtain ⟨d, rfl⟩ : ∃ d, k = k0 + d := ⟨k - k0, by omega⟩
  clear hk
  induction d with
  | zero => exact h0
  | succ d ih => exact h _ r ih
def DimsFit (D : List ByteArray) : Prop := D.length = 2 ∧ ∀ s ∈ D, s.size ≤ 64
theorem dims_set {D : List ByteArray} (h : DimsFit D) (i : Nat) (x : ByteArray) (hx : x.size ≤ 64) : DimsFit (D.set i x) := by
  refine ⟨by rw [List.length_set]; exact h.1, fun s hs => ?_⟩
  rcases List.mem_or_eq_of_mem_set hs with h1 | h1
  · exact h.2 s h1
  · rw [h1]; exact hx
theorem right_inner (l acc : List S44) (i : Nat) (hi : i < l.length) (c0 c1 : Int) (t : Int) (D : List ByteArray) (M : List Int) (hD : DimsFit D) (hM : M.length = 2) (x : Nat) (hx : x < 2) (k : Nat) :
    ∃ D' M', DimsFit D' ∧ M'.length = 2 ∧ gristmilllaw06_right.l1 (k + 2) l acc (i : Int) (x : Int) c0 c1 2 2 t D M = gristmilllaw06_right.l1 k l acc (i : Int) ((x + 1 : Nat) : Int) c0 c1 2 2 t D' M' := by
  have e : wrap64 ((x : Int) + 1) = ((x + 1 : Nat) : Int) := by unfold wrap64; omega
  have hi' : (i : Int) < (l.length : Int) := Int.ofNat_lt.2 hi
  have hi0 : 0 ≤ (i : Int) := Int.natCast_nonneg i
  have hx0 : 0 ≤ (x : Int) := Int.natCast_nonneg x
  have hx2 : (x : Int) < 2 := by omega
  have hD1 := hD.1
  obtain ⟨m, hm⟩ : ∃ m, rd_T44 l (i : Int) = m := ⟨_, rfl⟩
  rw [show k + 2 = (k + 1) + 1 from rfl, gristmilllaw06_right.l1, if_pos hx2, if_pos hi0, if_pos hi', hm]
  -- what is done for the numbers
  have meas : ∀ (D2 : List ByteArray), DimsFit D2 → ∃ D' M', DimsFit D' ∧ M'.length = 2 ∧
      (if (x : Int) < ((m.f0.f2).length : Int) then (if (x : Int) < (M.length : Int) then (gristmilllaw06_right.l1 k l acc (i : Int) (wrap64 ((x : Int) + 1)) c0 c1 2 2 t D2 (M.set (x : Int).toNat (rd (m.f0.f2) (x : Int)))) else none) else (gristmilllaw06_right.l1 k l acc (i : Int) (wrap64 ((x : Int) + 1)) c0 c1 2 2 t D2 M)) =
      gristmilllaw06_right.l1 k l acc (i : Int) ((x + 1 : Nat) : Int) c0 c1 2 2 t D' M' := by
    intro D2 hD2
    rw [e]
    by_cases h : (x : Int) < ((m.f0.f2).length : Int)
    · rw [if_pos h, if_pos (by omega)]
      exact ⟨D2, _, hD2, by rw [List.length_set]; exact hM, rfl⟩
    · rw [if_neg h]
      exact ⟨D2, M, hD2, hM, rfl⟩
  have noth : ∃ D' M', DimsFit D' ∧ M'.length = 2 ∧ gristmilllaw06_right.j3 (k + 1) l acc (i : Int) (x : Int) false c0 c1 2 2 t D M = gristmilllaw06_right.l1 k l acc (i : Int) ((x + 1 : Nat) : Int) c0 c1 2 2 t D' M' := by
    rw [gristmilllaw06_right.j3, if_neg (by simp), if_pos hi0, if_pos hi', hm]
    obtain ⟨D', M', h1, h2, h3⟩ := meas D hD
    refine ⟨D', M', h1, h2, ?_⟩
    rw [← h3]
    split
    · first | rfl | rw [if_pos hx0]
    · rfl
  by_cases hd : (x : Int) < ((m.f0.f1).length : Int)
  · rw [if_pos hd, if_pos hx0]
    by_cases h64 : ((rdOf ByteArray.empty (m.f0.f1) (x : Int)).size : Int) ≤ 64
    · rw [decide_eq_true h64]
      obtain ⟨D', M', h1, h2, h3⟩ := meas (D.set (x : Int).toNat (rdOf ByteArray.empty (m.f0.f1) (x : Int))) (dims_set hD _ _ (by omega))
      refine ⟨D', M', h1, h2, ?_⟩
      rw [gristmilllaw06_right.j3, if_pos rfl, if_pos hi0, if_pos hi', if_pos hx0, hm, if_pos hd, if_pos (show (x : Int) < (D.length : Int) by omega), Option.bind_some]
      exact h3
    · rw [decide_eq_false h64]
      exact noth
  · rw [if_neg hd]
    exact noth
theorem right_one (l acc : List S44) (i : Nat) (hi : i < l.length) (hi40 : i < 40) (hn : 0 ≤ l[i].f1) (ha : acc.length ≤ 40) (c0 c1 : Int) (k : Nat) :
    ∃ m, FitM m ∧ gristmilllaw06_right.l0 (k + 7) l acc (i : Int) c0 c1 2 2 = gristmilllaw06_right.l0 k l (acc ++ [m]) ((i + 1 : Nat) : Int) c0 c1 2 2 := by
  have e : wrap64 ((i : Int) + 1) = ((i + 1 : Nat) : Int) := by unfold wrap64; omega
  have hi' : (i : Int) < (l.length : Int) := Int.ofNat_lt.2 hi
  have hi0 : 0 ≤ (i : Int) := Int.natCast_nonneg i
  have hr := rd44 l i hi
  have h0 : DimsFit [(⟨#[]⟩ : ByteArray), (⟨#[]⟩ : ByteArray)] := ⟨rfl, fun s hs => by
    simp only [List.mem_cons, List.not_mem_nil, or_false, or_self] at hs
    subst hs; decide⟩
  obtain ⟨D1, M1, hD1, hM1, e1⟩ := right_inner l acc i hi c0 c1 (l[i].f0.f0) _ [0, 0] h0 rfl 0 (by omega) (k + 3)
  obtain ⟨D2, M2, hD2, hM2, e2⟩ := right_inner l acc i hi c0 c1 (l[i].f0.f0) D1 M1 hD1 hM1 1 (by omega) (k + 1)
  refine ⟨⟨⟨l[i].f0.f0, D2, M2⟩, Int.tmod l[i].f1 1125899906842624⟩, ⟨Int.tmod_nonneg _ hn, Int.tmod_lt_of_pos _ (by omega), hD2.1, hM2, hD2.2⟩, ?_⟩
  rw [show k + 7 = (k + 6) + 1 from rfl, gristmilllaw06_right.l0, if_pos hi', decide_eq_true (show (i : Int) < 40 by omega), show k + 6 = (k + 5) + 1 from rfl, gristmilllaw06_right.j1, if_pos rfl, if_pos hi0, if_pos hi', hr]
  have e1' : gristmilllaw06_right.l1 (k + 5) l acc (i : Int) 0 c0 c1 2 2 (l[i].f0.f0) [(⟨#[]⟩ : ByteArray), (⟨#[]⟩ : ByteArray)] [0, 0] = gristmilllaw06_right.l1 (k + 3) l acc (i : Int) ((1 : Nat) : Int) c0 c1 2 2 (l[i].f0.f0) D1 M1 := e1
  have e2' : gristmilllaw06_right.l1 (k + 3) l acc (i : Int) ((1 : Nat) : Int) c0 c1 2 2 (l[i].f0.f0) D1 M1 = gristmilllaw06_right.l1 (k + 1) l acc (i : Int) ((2 : Nat) : Int) c0 c1 2 2 (l[i].f0.f0) D2 M2 := e2
  rw [e1', e2', gristmilllaw06_right.l1, if_neg (by omega), if_pos hi0, if_pos hi', if_pos (by omega), hr, e]
theorem right_loop (l : List S44) (hn : ∀ m ∈ l, 0 ≤ m.f1) (c0 c1 : Int) : ∀ (n i : Nat), i + n = min l.length 40 → ∀ (acc : List S44) (k : Nat), acc.length = i → FitL acc →
    ∃ r, FitL r ∧ r.length ≤ 40 ∧ gristmilllaw06_right.l0 (k + 7 * n + 2) l acc (i : Int) c0 c1 2 2 = some (2, 2, c0, c1, r) := by
  intro n
  induction n with
  | zero =>
    intro i hi acc k ha hf
    refine ⟨acc, hf, by omega, ?_⟩
    rw [show k + 7 * 0 + 2 = (k + 1) + 1 from rfl, gristmilllaw06_right.l0]
    by_cases h : (i : Int) < (l.length : Int)
    · rw [if_pos h, decide_eq_false (show ¬ (i : Int) < 40 by omega), gristmilllaw06_right.j1, if_neg (by simp)]
    · rw [if_neg h, gristmilllaw06_right.j1, if_neg (by simp)]
  | succ n ih =>
    intro i hi acc k ha hf
    have hil : i < l.length := by omega
    obtain ⟨m, hm, e⟩ := right_one l acc i hil (by omega) (hn _ (List.getElem_mem hil)) (by omega) c0 c1 (k + 7 * n + 2)
    rw [show k + 7 * (n + 1) + 2 = k + 7 * n + 2 + 7 by omega, e]
    exact ih (i + 1) (by omega) (acc ++ [m]) k (by simp [ha]) (fun x hx => by
      rcases List.mem_append.1 hx with h | h
      · exact hf x h
      · rw [List.mem_singleton.1 h]; exact hm)
theorem right_is (a0 a1 : Int) (h0 : (Lit.int .i64 a0).wf = true) (h1 : (Lit.int .i64 a1).wf = true) : ∃ c0 c1 : Int, (1 ≤ c0 ∧ c0 ≤ 5) ∧ (0 ≤ c1 ∧ c1 < 2) ∧
    ∀ (l : List S44), (∀ m ∈ l, 0 ≤ m.f1) → ∃ r, FitL r ∧ r.length ≤ 40 ∧ ∀ k, 300 ≤ k → gristmilllaw06_right.f k a0 a1 l = some (2, 2, c0, c1, r) := by
  obtain ⟨m0, e0, hm0⟩ := abs_is a0 h0
  obtain ⟨m1, e1, hm1⟩ := abs_is a1 h1
  have h5 : 0 ≤ Int.tmod m0 5 ∧ Int.tmod m0 5 < 5 := ⟨Int.tmod_nonneg _ hm0, Int.tmod_lt_of_pos _ (by omega)⟩
  have h2 : 0 ≤ Int.tmod m1 2 ∧ Int.tmod m1 2 < 2 := ⟨Int.tmod_nonneg _ hm1, Int.tmod_lt_of_pos _ (by omega)⟩
  refine ⟨wrap64 (1 + Int.tmod m0 5), Int.tmod m1 2, by unfold wrap64; omega, h2, fun l hl => ?_⟩
  obtain ⟨r, h3, h4, _⟩ := right_loop l hl (wrap64 (1 + Int.tmod m0 5)) (Int.tmod m1 2) (min l.length 40) 0 (by omega) [] 0 rfl (fun x hx => by cases hx)
  refine ⟨r, h3, h4, fun k hk => ?_⟩
  have hb : gristmilllaw06_right.f (0 + 7 * (min l.length 40) + 2) a0 a1 l = some (2, 2, wrap64 (1 + Int.tmod m0 5), Int.tmod m1 2, r) := by
    unfold gristmilllaw06_right.f
    rw [e0, e1]
    assumption
  exact up_ (fun k => gristmilllaw06_right.f k a0 a1 l) (fun k => gristmilllaw06_right.mono a0 a1 l k) hb (by omega)
end Go.Proofs.Ytmjhgeinhhhodaa.Ext
end

section
namespace Go.Proofs.Ytmjhgeinhhhodaa.Ext
set_option linter.unusedVariables false
set_option linter.unusedSimpArgs false
open Go.RowKit Go.Proofs.YtmjhgeinhhhodaaW.PrintWords Go.Proofs.Ytmjhgeinhhhodaa.P Go.Proofs.Ytmjhgeinhhhodaa.Txt
theorem built_of_rises {l : List ByteArray} (h : l.Pairwise (fun a b => a.data.toList < b.data.toList)) : builtB l = l := by
  have h2 : (txts l).Pairwise (· < ·) := by unfold txts; rw [List.pairwise_map]; exact h
  have e : Txt.built (txts l) = txts l := rises_same (built_rises _) h2 (fun y => built_mem _ _)
  unfold builtB
  rw [e]
  unfold strs txts
  rw [List.map_map]
  conv => rhs; rw [← List.map_id l]
  exact List.map_congr_left (fun x _ => bs_of x)
end Go.Proofs.Ytmjhgeinhhhodaa.Ext
end

section
namespace Go.Proofs.Ytmjhgeinhhhodaa.Ext
set_option linter.unusedVariables false
set_option linter.unusedSimpArgs false
open Go.RowKit Go.Proofs.YtmjhgeinhhhodaaW.PrintWords Go.Proofs.Ytmjhgeinhhhodaa.P Go.Proofs.Ytmjhgeinhhhodaa.Txt
theorem wrap64_congr {a b : Int} (h : a % 18446744073709551616 = b % 18446744073709551616) : wrap64 a = wrap64 b := by unfold wrap64; omega
theorem many_sum (x n : Int) (h0 : 0 ≤ n) (h1 : n < 1125899906842624) : wrap64 (x * wrap64 n) = manyV 2 x n := by
  have e : wrap64 n = n := by unfold wrap64; omega
  rw [e]
  unfold manyV
  rw [if_pos rfl]
  refine wrap64_congr ?_
  show x * n % 18446744073709551616 = (x % 18446744073709551616 * n % 18446744073709551616) % 18446744073709551616
  rw [Int.emod_emod_of_dvd _ (Int.dvd_refl _), Int.mul_emod, Int.mul_emod (x % 18446744073709551616) n, Int.emod_emod_of_dvd _ (Int.dvd_refl _)]
end Go.Proofs.Ytmjhgeinhhhodaa.Ext
end

section
namespace Go.Proofs.Ytmjhgeinhhhodaa.Ext
set_option linter.unusedVariables false
set_option linter.unusedSimpArgs false
open Go.RowKit Go.Proofs.YtmjhgeinhhhodaaW.PrintWords Go.Proofs.Ytmjhgeinhhhodaa.P Go.Proofs.Ytmjhgeinhhhodaa.Txt
theorem two_of {α : Type} {l : List α} (h : l.length = 2) : ∃ a b, l = [a, b] := by
  match l, h with
  | [a, b], _ => exact ⟨a, b, rfl⟩
theorem cmp_meas (k : Nat) (t0 t1 : Int) (d0 d1 : List ByteArray) (a b c d : Int) :
    gristmillref04_Compare.l1 (k + 6) 0 t0 d0 [a, b] t1 d1 [c, d] = if a < c then some (-1) else if a > c then some 1 else if b < d then some (-1) else if b > d then some 1 else some 0 := by
  have e1 : wrap64 (0 + 1) = 1 := by unfold wrap64; omega
  have e2 : wrap64 (1 + 1) = 2 := by unfold wrap64; omega
  have e3 : wrap64 1 = 1 := by unfold wrap64; omega
  have e4 : wrap64 2 = 2 := by unfold wrap64; omega
  simp [gristmillref04_Compare.l1, gristmillref04_Compare.j3, rd, e1, e2, e3, e4]
theorem cmp_dims (k : Nat) (t0 t1 : Int) (m0 m1 : List Int) (a b c d : ByteArray) :
    gristmillref04_Compare.l0 (k + 6) 0 t0 [a, b] m0 t1 [c, d] m1 = if Op.bytesLess a.toList c.toList = true then some (-1) else if Op.bytesLess c.toList a.toList = true then some 1 else if Op.bytesLess b.toList d.toList = true then some (-1) else if Op.bytesLess d.toList b.toList = true then some 1 else gristmillref04_Compare.l1 k 0 t0 [a, b] m0 t1 [c, d] m1 := by
  have e1 : wrap64 (0 + 1) = 1 := by unfold wrap64; omega
  have e2 : wrap64 (1 + 1) = 2 := by unfold wrap64; omega
  have e3 : wrap64 1 = 1 := by unfold wrap64; omega
  have e4 : wrap64 2 = 2 := by unfold wrap64; omega
  simp [gristmillref04_Compare.l0, gristmillref04_Compare.j1, rdOf, e1, e2, e3, e4]
theorem less_none {a b : ByteArray} (h1 : ¬ Op.bytesLess a.toList b.toList = true) (h2 : ¬ Op.bytesLess b.toList a.toList = true) : a = b := by
  rw [less_is, decide_eq_true_iff] at h1 h2
  rcases lt_or a.data.toList b.data.toList with h | h | h
  · exact absurd h h1
  · exact (bs_eq a b).2 h
  · exact absurd h h2
theorem cmp_is (x y : S42) (hx1 : x.f1.length = 2) (hx2 : x.f2.length = 2) (hy1 : y.f1.length = 2) (hy2 : y.f2.length = 2) :
    ∃ v : Int, (v = 0 → x.f1 = y.f1 ∧ x.f2 = y.f2) ∧ ∀ k, 12 ≤ k → gristmillref04_Compare.f k x.f0 x.f1 x.f2 y.f0 y.f1 y.f2 = some v := by
  obtain ⟨a, b, e1⟩ := two_of hx1
  obtain ⟨c, d, e2⟩ := two_of hx2
  obtain ⟨a', b', e3⟩ := two_of hy1
  obtain ⟨c', d', e4⟩ := two_of hy2
  rw [e1, e2, e3, e4]
  have key : ∀ k, 12 ≤ k → gristmillref04_Compare.f k x.f0 [a, b] [c, d] y.f0 [a', b'] [c', d'] = if x.f0 < y.f0 then some (-1) else if x.f0 > y.f0 then some 1 else
      if Op.bytesLess a.toList a'.toList = true then some (-1) else if Op.bytesLess a'.toList a.toList = true then some 1 else if Op.bytesLess b.toList b'.toList = true then some (-1) else if Op.bytesLess b'.toList b.toList = true then some 1 else
      if c < c' then some (-1) else if c > c' then some 1 else if d < d' then some (-1) else if d > d' then some 1 else some 0 := by
    intro k hk
    obtain ⟨j, rfl⟩ : ∃ j, k = j + 6 + 6 := ⟨k - 12, by omega⟩
    unfold gristmillref04_Compare.f
    rw [cmp_dims, cmp_meas]
  by_cases h1 : x.f0 < y.f0
  · exact ⟨-1, fun h => by omega, fun k hk => by rw [key k hk, if_pos h1]⟩
  by_cases h2 : x.f0 > y.f0
  · exact ⟨1, fun h => by omega, fun k hk => by rw [key k hk, if_neg h1, if_pos h2]⟩
  by_cases h3 : Op.bytesLess a.toList a'.toList = true
  · exact ⟨-1, fun h => by omega, fun k hk => by rw [key k hk, if_neg h1, if_neg h2, if_pos h3]⟩
  by_cases h4 : Op.bytesLess a'.toList a.toList = true
  · exact ⟨1, fun h => by omega, fun k hk => by rw [key k hk, if_neg h1, if_neg h2, if_neg h3, if_pos h4]⟩
  by_cases h5 : Op.bytesLess b.toList b'.toList = true
  · exact ⟨-1, fun h => by omega, fun k hk => by rw [key k hk, if_neg h1, if_neg h2, if_neg h3, if_neg h4, if_pos h5]⟩
  by_cases h6 : Op.bytesLess b'.toList b.toList = true
  · exact ⟨1, fun h => by omega, fun k hk => by rw [key k hk, if_neg h1, if_neg h2, if_neg h3, if_neg h4, if_neg h5, if_pos h6]⟩
  by_cases h7 : c < c'
  · exact ⟨-1, fun h => by omega, fun k hk => by rw [key k hk, if_neg h1, if_neg h2, if_neg h3, if_neg h4, if_neg h5, if_neg h6, if_pos h7]⟩
  by_cases h8 : c > c'
  · exact ⟨1, fun h => by omega, fun k hk => by rw [key k hk, if_neg h1, if_neg h2, if_neg h3, if_neg h4, if_neg h5, if_neg h6, if_neg h7, if_pos h8]⟩
  by_cases h9 : d < d'
  · exact ⟨-1, fun h => by omega, fun k hk => by rw [key k hk, if_neg h1, if_neg h2, if_neg h3, if_neg h4, if_neg h5, if_neg h6, if_neg h7, if_neg h8, if_pos h9]⟩
  by_cases h10 : d > d'
  · exact ⟨1, fun h => by omega, fun k hk => by rw [key k hk, if_neg h1, if_neg h2, if_neg h3, if_neg h4, if_neg h5, if_neg h6, if_neg h7, if_neg h8, if_neg h9, if_pos h10]⟩
  refine ⟨0, fun _ => ⟨?_, ?_⟩, fun k hk => by rw [key k hk, if_neg h1, if_neg h2, if_neg h3, if_neg h4, if_neg h5, if_neg h6, if_neg h7, if_neg h8, if_neg h9, if_neg h10]⟩
  · rw [less_none h3 h4, less_none h5 h6]
  · rw [show c = c' by omega, show d = d' by omega]
theorem FitL.append {x y : List S44} (hx : FitL x) (hy : FitL y) : FitL (x ++ y) := fun m hm => by
  rcases List.mem_append.1 hm with h | h
  · exact hx m h
  · exact hy m h
theorem FitL.one {m : S44} (h : FitM m) : FitL [m] := fun x hx => by rw [List.mem_singleton.1 hx]; exact h
theorem FitL.drop {l : List S44} (h : FitL l) (j : Nat) : FitL (l.drop j) := fun m hm => h m (List.mem_of_mem_drop hm)
theorem sp_one {c c1 : Int} (hc : 1 ≤ c ∧ c ≤ 5) (h1 : 0 ≤ c1 ∧ c1 < 2) {m : S44} (hm : FitM m) : sp c c1 [m] = unit c c1 m := zero_mg (unit_fit hc h1 hm)
theorem sp_mid {c c1 : Int} (hc : 1 ≤ c ∧ c ≤ 5) (h1 : 0 ≤ c1 ∧ c1 < 2) (X Y : List S44) (m : S44) (hX : FitL X) (hY : FitL Y) (hm : FitM m) (hl : X.length + Y.length ≤ 900) :
    sp c c1 (X ++ [m] ++ Y) = mg c (sp c c1 (X ++ Y)) (unit c c1 m) := by
  have fX := sp_fit hc h1 X hX (by omega)
  have fY := sp_fit hc h1 Y hY (by omega)
  have fm := unit_fit hc h1 hm
  rw [List.append_assoc, sp_append hc h1 X ([m] ++ Y) hX ((FitL.one hm).append hY) (by simp; omega), sp_append hc h1 [m] Y (FitL.one hm) hY (by simp; omega), sp_one hc h1 hm,
    sp_append hc h1 X Y hX hY (by omega), mg_comm hc fm fY, ← mg_assoc fX fY fm (by omega) (by omega) (by omega) (by omega)]
theorem many_more (x a : Int) (h0 : 0 ≤ a) (h1 : a + 1 < 1125899906842624) : manyV 2 x (a + 1) = wrap64 (manyV 2 x a + manyV 2 x 1) := by
  have ea : wrap64 a = a := by unfold wrap64; omega
  have eb : wrap64 (a + 1) = a + 1 := by unfold wrap64; omega
  have ec : wrap64 1 = 1 := by unfold wrap64; omega
  rw [← many_sum x (a + 1) (by omega) h1, ← many_sum x a h0 (by omega), ← many_sum x 1 (by omega) (by omega), ea, eb, ec, Int.mul_add]
  generalize x * a = y
  generalize x * 1 = z
  unfold wrap64; omega
theorem unit_more {c c1 : Int} (hc : 1 ≤ c ∧ c ≤ 5) (h1 : 0 ≤ c1 ∧ c1 < 2) (f g : S42) (a : Int) (ha : 1 ≤ a) (hb : a + 1 < 1125899906842624) (e1 : g.f1 = f.f1) (e2 : g.f2 = f.f2) :
    unit c c1 ⟨f, a + 1⟩ = mg c (unit c c1 ⟨g, a⟩) (unit c c1 ⟨f, 1⟩) := by
  unfold unit
  simp only
  rw [if_neg (show ¬ a + 1 = 0 by omega), if_neg (show ¬ a = 0 by omega), if_neg (show ¬ (1 : Int) = 0 by omega), e1, e2]
  have hw : IntKind.u64.wrap (a + 1) = a + 1 := u64_small (by omega) (by omega)
  by_cases k1 : c = 1
  · rw [if_pos k1, if_pos k1, if_pos k1]
    unfold mg mergeV
    simp only
    rw [if_neg (show ¬ a = 0 by omega), if_neg (show ¬ (1 : Int) = 0 by omega), hw, if_neg (by omega), if_neg (by omega), if_neg (by omega), List.append_nil, builtB_nil]
  rw [if_neg k1, if_neg k1, if_neg k1]
  by_cases k5 : c = 5
  · rw [if_pos k5, if_pos k5, if_pos k5]
    unfold mg mergeV
    simp only
    rw [if_neg (show ¬ a = 0 by omega), if_neg (show ¬ (1 : Int) = 0 by omega), hw, if_neg (by omega), if_neg (by omega), if_neg (by omega)]
    congr 1
    generalize f.f1.getD c1.toNat ⟨#[]⟩ = s
    rw [← builtB_one s]
    exact built_ext (fun y => by simp [mem_built])
  rw [if_neg k5, if_neg k5, if_neg k5]
  unfold mg
  simp only
  rw [if_neg (show ¬ a = 0 by omega), if_neg (show ¬ (1 : Int) = 0 by omega), hw, List.append_nil, builtB_nil]
  congr 1
  generalize rd f.f2 c1 = x
  unfold mergeV
  by_cases k2 : c = 2
  · rw [if_pos k2, k2]; exact many_more x a (by omega) hb
  rw [if_neg k2]
  have hmx : ∀ n, manyV c x n = x := fun n => by unfold manyV; rw [if_neg k2]
  rw [hmx, hmx, hmx]
  by_cases k3 : c = 3
  · rw [if_pos k3]; omega
  rw [if_neg k3]
  by_cases k4 : c = 4
  · rw [if_pos k4]; omega
  · rw [if_neg k4]
structure Bag (b : List S44) (j : Nat) : Prop where
  fit : FitL b
  pos : ∀ m ∈ b, 1 ≤ m.f1
  tot : (b.map (·.f1)).sum = (j : Int)
  len : b.length ≤ j
theorem sum_pos : ∀ {b : List S44}, (∀ m ∈ b, 1 ≤ m.f1) → 0 ≤ (b.map (·.f1)).sum ∧ ∀ m ∈ b, m.f1 ≤ (b.map (·.f1)).sum
  | [], _ => ⟨by simp, fun m hm => by cases hm⟩
  | x :: r, h => by
    obtain ⟨h1, h2⟩ := sum_pos (b := r) (fun m hm => h m (by simp [hm]))
    have h3 := h x (by simp)
    rw [List.map_cons, List.sum_cons]
    refine ⟨by omega, fun m hm => ?_⟩
    rcases List.mem_cons.1 hm with rfl | hm
    · omega
    · have := h2 m hm; omega
theorem put_step {c c1 : Int} (hc : 1 ≤ c ∧ c ≤ 5) (h1 : 0 ≤ c1 ∧ c1 < 2) (b : List S44) (j : Nat) (hb : Bag b j) (hj : j ≤ 400) (f : S42) (hf : FitM ⟨f, 1⟩) (i : Nat) (hi : i < b.length) (e1 : b[i].f0.f1 = f.f1) (e2 : b[i].f0.f2 = f.f2) :
    Bag (b.take i ++ [⟨f, b[i].f1 + 1⟩] ++ b.drop (i + 1)) (j + 1) ∧ sp c c1 (b.take i ++ [⟨f, b[i].f1 + 1⟩] ++ b.drop (i + 1)) = mg c (sp c c1 b) (unit c c1 ⟨f, 1⟩) := by
  have hle := hb.len
  have hm : b[i] ∈ b := List.getElem_mem hi
  have hp := hb.pos _ hm
  have hs := (sum_pos hb.pos).2 _ hm
  rw [hb.tot] at hs
  have hm' : FitM ⟨f, b[i].f1 + 1⟩ := ⟨by show (0 : Int) ≤ b[i].f1 + 1; omega, by show b[i].f1 + 1 < _; omega, hf.d, hf.e, hf.s⟩
  have hbe : b.take i ++ [b[i]] ++ b.drop (i + 1) = b := by rw [← List.take_succ_eq_append_getElem hi, List.take_append_drop]
  have hlt : (b.take i).length + (b.drop (i + 1)).length ≤ 900 := by rw [List.length_take, List.length_drop]; omega
  refine ⟨⟨((hb.fit.take i).append (FitL.one hm')).append (hb.fit.drop _), fun m hm => ?_, ?_, ?_⟩, ?_⟩
  · simp only [List.mem_append, List.mem_singleton] at hm
    rcases hm with (h | rfl) | h
    · exact hb.pos _ (List.mem_of_mem_take h)
    · show (1 : Int) ≤ b[i].f1 + 1; omega
    · exact hb.pos _ (List.mem_of_mem_drop h)
  · have ht := hb.tot
    rw [← hbe] at ht
    simp only [List.map_append, List.map_cons, List.map_nil, List.sum_append, List.sum_cons, List.sum_nil] at ht ⊢
    omega
  · simp only [List.length_append, List.length_take, List.length_drop, List.length_singleton]; omega
  · have fX := sp_fit hc h1 (b.take i ++ b.drop (i + 1)) ((hb.fit.take i).append (hb.fit.drop _)) (by rw [List.length_append]; omega)
    rw [sp_mid hc h1 _ _ _ (hb.fit.take i) (hb.fit.drop _) hm' hlt, unit_more hc h1 f b[i].f0 b[i].f1 hp (by omega) e1 e2,
      ← mg_assoc fX (unit_fit hc h1 (hb.fit _ hm)) (unit_fit hc h1 hf) (by rw [List.length_append]; omega) (by omega) (by omega) (by omega)]
    congr 1
    have := sp_mid hc h1 (b.take i) (b.drop (i + 1)) b[i] (hb.fit.take i) (hb.fit.drop _) (hb.fit _ hm) hlt
    rw [hbe] at this
    exact this.symm
theorem put_new {c c1 : Int} (hc : 1 ≤ c ∧ c ≤ 5) (h1 : 0 ≤ c1 ∧ c1 < 2) (b : List S44) (j : Nat) (hb : Bag b j) (hj : j ≤ 400) (f : S42) (hf : FitM ⟨f, 1⟩) (i : Nat) (hi : i ≤ b.length) :
    Bag (b.take i ++ [⟨f, 1⟩] ++ b.drop i) (j + 1) ∧ sp c c1 (b.take i ++ [⟨f, 1⟩] ++ b.drop i) = mg c (sp c c1 b) (unit c c1 ⟨f, 1⟩) := by
  have hle := hb.len
  have hbe : b.take i ++ b.drop i = b := List.take_append_drop i b
  have hlt : (b.take i).length + (b.drop i).length ≤ 900 := by rw [List.length_take, List.length_drop]; omega
  refine ⟨⟨((hb.fit.take i).append (FitL.one hf)).append (hb.fit.drop _), fun m hm => ?_, ?_, ?_⟩, ?_⟩
  · simp only [List.mem_append, List.mem_singleton] at hm
    rcases hm with (h | rfl) | h
    · exact hb.pos _ (List.mem_of_mem_take h)
    · exact Int.le_refl _
    · exact hb.pos _ (List.mem_of_mem_drop h)
  · have ht := hb.tot
    rw [← hbe] at ht
    simp only [List.map_append, List.map_cons, List.map_nil, List.sum_append, List.sum_cons, List.sum_nil] at ht ⊢
    omega
  · simp only [List.length_append, List.length_take, List.length_drop, List.length_singleton]; omega
  · rw [sp_mid hc h1 _ _ _ (hb.fit.take i) (hb.fit.drop _) hf hlt, hbe]
end Go.Proofs.Ytmjhgeinhhhodaa.Ext
end

section
namespace Go.Proofs.Ytmjhgeinhhhodaa.Ext
set_option linter.unusedVariables false
set_option linter.unusedSimpArgs false
open Go.RowKit Go.Proofs.YtmjhgeinhhhodaaW.PrintWords Go.Proofs.Ytmjhgeinhhhodaa.P Go.Proofs.Ytmjhgeinhhhodaa.Txt
def More (b r : List S44) (f : S42) : Prop := ∀ c c1 : Int, (1 ≤ c ∧ c ≤ 5) → (0 ≤ c1 ∧ c1 < 2) → sp c c1 r = mg c (sp c c1 b) (unit c c1 ⟨f, 1⟩)
theorem put_loop6 (b : List S44) (j : Nat) (hb : Bag b j) (hj : j ≤ 400) (f : S42) (hf : FitM ⟨f, 1⟩) : ∀ (n i : Nat), i + n = b.length → ∀ k, 13 + n ≤ k → ∃ r, gristmillref04_Put.l0 k b 1 (i : Int) f.f0 f.f1 f.f2 = some r ∧ Bag r (j + 1) ∧ More b r f := by
  have hle := hb.len
  intro n
  induction n with
  | zero =>
    intro i hi k hk
    obtain ⟨k, rfl⟩ : ∃ k', k = k' + 1 := ⟨k - 1, by omega⟩
    refine ⟨b.take i ++ [⟨f, 1⟩] ++ b.drop i, ?_, (put_new (c := 1) (c1 := 0) ⟨by omega, by omega⟩ ⟨by omega, by omega⟩ b j hb hj f hf i (by omega)).1, fun c c1 hc h1 => (put_new hc h1 b j hb hj f hf i (by omega)).2⟩
    rw [gristmillref04_Put.l0, if_neg (by omega), if_pos (by omega), if_pos (by omega)]
    simp only [Option.bind_some, Int.toNat_natCast, List.nil_append]
    rw [if_pos (by simp only [List.length_nil, List.length_take]; omega), if_pos (by simp only [List.length_take]; omega), if_pos (by simp only [List.length_append, List.length_singleton, List.length_take, List.length_drop]; omega)]
  | succ n ih =>
    intro i hi k hk
    obtain ⟨k, rfl⟩ : ∃ k', k = k' + 1 := ⟨k - 1, by omega⟩
    have hil : i < b.length := by omega
    have e : wrap64 ((i : Int) + 1) = ((i + 1 : Nat) : Int) := by unfold wrap64; omega
    have hm := hb.fit _ (List.getElem_mem hil)
    obtain ⟨v, hv0, hv⟩ := cmp_is b[i].f0 f hm.d hm.e hf.d hf.e
    rw [gristmillref04_Put.l0, if_pos (by omega), if_pos (by omega), rd44 b i hil, hv k (by omega), e]
    simp only [Option.bind_some, Int.toNat_natCast, List.nil_append]
    by_cases hlt : v < 0
    · rw [if_pos hlt]
      exact ih (i + 1) (by omega) k (by omega)
    rw [if_neg hlt, if_pos (by omega), if_pos (by simp only [List.length_nil, List.length_take]; omega)]
    by_cases hz : v = 0
    · obtain ⟨e1, e2⟩ := hv0 hz
      have hp := hb.pos _ (List.getElem_mem hil)
      have hs := (sum_pos hb.pos).2 _ (List.getElem_mem hil)
      rw [hb.tot] at hs
      have hw : IntKind.u64.wrap (b[i].f1 + 1) = b[i].f1 + 1 := u64_small (by omega) (by omega)
      refine ⟨b.take i ++ [⟨f, b[i].f1 + 1⟩] ++ b.drop (i + 1), ?_, (put_step (c := 1) (c1 := 0) ⟨by omega, by omega⟩ ⟨by omega, by omega⟩ b j hb hj f hf i hil e1 e2).1, fun c c1 hc h1 => (put_step hc h1 b j hb hj f hf i hil e1 e2).2⟩
      rw [if_pos hz, if_pos (by simp only [List.length_take]; omega), if_pos (by omega), if_pos (by omega), hw, if_pos (by simp only [List.length_append, List.length_singleton, List.length_take, List.length_drop]; omega)]
    · refine ⟨b.take i ++ [⟨f, 1⟩] ++ b.drop i, ?_, (put_new (c := 1) (c1 := 0) ⟨by omega, by omega⟩ ⟨by omega, by omega⟩ b j hb hj f hf i (by omega)).1, fun c c1 hc h1 => (put_new hc h1 b j hb hj f hf i (by omega)).2⟩
      rw [if_neg hz, if_pos (by simp only [List.length_take]; omega), if_pos (by simp only [List.length_append, List.length_singleton, List.length_take, List.length_drop]; omega)]
def Ones (l : List S44) : Prop := ∀ m ∈ l, m.f1 = 1
theorem own_copy (b : List S44) (j : Nat) (hb : Bag b j) (hj : j ≤ 400) : ∀ (n i : Nat), i + n = b.length → ∀ k, n + 1 ≤ k → gristmillref04_Own.l1 k b (b.take i) (i : Int) = some b := by
  have hle := hb.len
  intro n
  induction n with
  | zero =>
    intro i hi k hk
    obtain ⟨k, rfl⟩ : ∃ k', k = k' + 1 := ⟨k - 1, by omega⟩
    rw [gristmillref04_Own.l1, if_neg (by omega), List.take_of_length_le (by omega)]
  | succ n ih =>
    intro i hi k hk
    obtain ⟨k, rfl⟩ : ∃ k', k = k' + 1 := ⟨k - 1, by omega⟩
    have hil : i < b.length := by omega
    have e : wrap64 ((i : Int) + 1) = ((i + 1 : Nat) : Int) := by unfold wrap64; omega
    have hp := hb.pos _ (List.getElem_mem hil)
    rw [gristmillref04_Own.l1, if_pos (by omega), if_pos (by omega), rd44 b i hil, if_neg (by omega), if_pos (by rw [List.length_take]; omega), e]
    have := ih (i + 1) (by omega) k (by omega)
    rw [take_snoc b i hil] at this
    exact this
theorem own_loop6 (l : List S44) (hf : FitL l) (ho : Ones l) (hl : l.length ≤ 400) : ∀ (n i : Nat), i + n = l.length → ∀ (b : List S44), Bag b i → (∀ c c1 : Int, (1 ≤ c ∧ c ≤ 5) → (0 ≤ c1 ∧ c1 < 2) → sp c c1 b = sp c c1 (l.take i)) → ∀ k, 1000 + n ≤ k →
    ∃ r, gristmillref04_Own.l0 k l b (i : Int) = some r ∧ Bag r l.length ∧ (∀ c c1 : Int, (1 ≤ c ∧ c ≤ 5) → (0 ≤ c1 ∧ c1 < 2) → sp c c1 r = sp c c1 l) := by
  intro n
  induction n with
  | zero =>
    intro i hi b hb hs k hk
    obtain ⟨k, rfl⟩ : ∃ k', k = k' + 1 := ⟨k - 1, by omega⟩
    have hil : i = l.length := by omega
    subst hil
    have hle := hb.len
    refine ⟨b, ?_, hb, fun c c1 hc h1 => by rw [hs c c1 hc h1, List.take_length]⟩
    rw [gristmillref04_Own.l0, if_neg (by omega)]
    have := own_copy b l.length hb hl b.length 0 (by omega) k (by omega)
    exact this
  | succ n ih =>
    intro i hi b hb hs k hk
    obtain ⟨k, rfl⟩ : ∃ k', k = k' + 1 := ⟨k - 1, by omega⟩
    have hil : i < l.length := by omega
    have e : wrap64 ((i : Int) + 1) = ((i + 1 : Nat) : Int) := by unfold wrap64; omega
    have h1 := ho _ (List.getElem_mem hil)
    have hm := hf _ (List.getElem_mem hil)
    have hle := hb.len
    have hfm : FitM ⟨l[i].f0, 1⟩ := ⟨by show (0 : Int) ≤ 1; omega, by show (1 : Int) < _; omega, hm.d, hm.e, hm.s⟩
    have hme : l[i] = ⟨l[i].f0, 1⟩ := by rw [← h1]
    obtain ⟨r, hr, hbr, hmore⟩ := put_loop6 b i hb (by omega) l[i].f0 hfm b.length 0 (by omega) k (by omega)
    rw [gristmillref04_Own.l0, if_pos (by omega), if_pos (by omega), rd44 l i hil, h1]
    unfold gristmillref04_Put.f
    have hr' : gristmillref04_Put.l0 k b 1 0 l[i].f0.f0 l[i].f0.f1 l[i].f0.f2 = some r := hr
    rw [hr', e]
    refine ih (i + 1) (by omega) r hbr (fun c c1 hc hc1 => ?_) k (by omega)
    rw [hmore c c1 hc hc1, take_snoc l i hil, sp_snoc, hs c c1 hc hc1, ← hme]
theorem own_is6 (l : List S44) (hf : FitL l) (ho : Ones l) (hl : l.length ≤ 400) (k : Nat) (hk : 1400 ≤ k) : ∃ r, gristmillref04_Own.f k l = some r ∧ FitL r ∧ r.length ≤ l.length ∧ (∀ c c1 : Int, (1 ≤ c ∧ c ≤ 5) → (0 ≤ c1 ∧ c1 < 2) → sp c c1 r = sp c c1 l) := by
  obtain ⟨r, h1, h2, h3⟩ := own_loop6 l hf ho hl l.length 0 (by omega) [] ⟨fun m h => by (cases h), fun m h => by (cases h), rfl, Nat.le_refl _⟩ (fun c c1 hc hc1 => by rw [List.take_zero]) k (by omega)
  exact ⟨r, h1, h2.fit, h2.len, h3⟩
end Go.Proofs.Ytmjhgeinhhhodaa.Ext
end

section
namespace Go.Proofs.Ytmjhgeinhhhodaa.Ext
set_option linter.unusedVariables false
set_option linter.unusedSimpArgs false
open Go.RowKit Go.Proofs.YtmjhgeinhhhodaaW.PrintWords
open Go.ChangeShapes Go.WideShapes Go.ChangeAt Go.Deep
def Opens (P : Program) {α : Type} (d : Kd α) (t : TypeId) (Q : α → Prop) : Prop :=
  ∀ (H : Type) (enc : TypeId × Value → H) (W : World) (base : Nat) (held : Bool) (fuel : Nat) (cs : List Value) (x : DataW H × List MemPlace),
    DataW.trod enc P W base (fun _ => true) held fuel t cs = some x → (∀ n ∈ x.1.weights P t, n ≤ reachBytes) → ∃ v, d.K W v cs ∧ Q v
def OpensF (P : Program) {α : Type} (d : Kd α) (o : Nat) (fs : List Field) (Q : α → Prop) : Prop :=
  ∀ (H : Type) (enc : TypeId × Value → H) (W : World) (base : Nat) (held : Bool) (n : Nat) (cs : List Value) (xs : List (DataW H × List MemPlace)),
    cs.length = o + d.sz → xs.length = fs.length →
    (∀ (i : Nat) (f : Field), fs[i]? = some f → DataW.trod enc P W base (fun _ => true) held n f.type ((cs.drop f.offset).take (P.cellsOf f.type)) = xs[i]?) →
    (∀ n ∈ DataW.weightsEach P (fs.map (·.type)) (xs.map (·.1)), n ≤ reachBytes) → ∃ v, d.K W v (cs.drop o) ∧ Q v
theorem opens_int {P : Program} {t : TypeId} {k : IntKind} (ht : P.underlying t = some (.int k)) : Opens P (Kd.int k) t (fun n => (Lit.int k n).wf = true) := by
  intro H enc W base held fuel cs x h _
  obtain ⟨n, rfl, _, hw⟩ := DataW.trod_int ht h
  exact ⟨n, rfl, hw⟩
theorem opens_string {P : Program} {t : TypeId} (ht : P.underlying t = some .string) : Opens P Kd.string t (fun s => s.size ≤ reachBytes) := by
  intro H enc W base held fuel cs x h hw
  obtain ⟨s, rfl, rfl, _⟩ := DataW.trod_string ht h
  refine ⟨s, rfl, ?_⟩
  have := hw s.data.toList.length (by simp [DataW.weights])
  simpa using this
theorem weights_all {H : Type} {P : Program} {e : TypeId} {d : DataW H} : ∀ {ds : List (DataW H)}, d ∈ ds → ∀ n ∈ d.weights P e, n ∈ DataW.weightsAll P e ds
  | [], h, _, _ => by cases h
  | d0 :: ds, h, n, hn => by
    simp only [DataW.weightsAll, List.mem_append]
    rcases List.mem_cons.1 h with rfl | h
    · exact .inl hn
    · exact .inr (weights_all h n hn)
theorem opens_slice {P : Program} {α : Type} {d : Kd α} {t e : TypeId} {ek : Nat} {Q : α → Prop} (ht : P.underlying t = some (.slice e)) (hd : Opens P d e Q) (hc : P.cellsOf e = d.sz) :
    Opens P (Kd.slice ek d) t (fun l => (∀ x ∈ l, Q x) ∧ l.length * P.bytesOf e ≤ reachBytes) := by
  intro H enc W base held fuel cs x h hw
  rcases open_slice ht h with ⟨rfl, _⟩ | ⟨a, len, cap, m, n, D, Pl, rfl, hb, hl, hm, hmm, rfl, hx⟩
  · exact ⟨[], ⟨none, 0, rfl, Nat.le_refl _, Kd.C_nil _ _⟩, by simp, by simp⟩
  have hml : len ≤ m := by rw [hmm]; simpa using hl
  have hat : ∀ i, i < len → ∃ v cs', d.K W v cs' ∧ Q v ∧ W.cells? base (a.add (i * P.cellsOf e)) (P.cellsOf e) = some cs' := by
    intro i hi
    obtain ⟨cs', h1, h2⟩ := hx i (Nat.lt_of_lt_of_le hi hml)
    obtain ⟨v, hv, hq⟩ := hd H enc W base held n cs' _ h2 (fun n hn => hw n (by
      simp only [DataW.weights, ht, List.mem_cons, List.mem_append]
      exact .inr (.inl (weights_all (List.mem_map.2 ⟨i, by simpa using hi, rfl⟩) n hn))))
    exact ⟨v, cs', hv, hq, h1⟩
  have hl2 : ∃ l : List α, l.length = len ∧ ∀ i v, l[i]? = some v → ∃ cs', d.K W v cs' ∧ Q v ∧ W.cells? base (a.add (i * P.cellsOf e)) (P.cellsOf e) = some cs' := by
    clear hw hx hmm hml hm hl h
    induction len with
    | zero => exact ⟨[], rfl, fun i v h => by simp at h⟩
    | succ k ih =>
      obtain ⟨l, hl, hr⟩ := ih (fun i hi => hat i (by omega))
      obtain ⟨v, cs', h1, h2, h3⟩ := hat k (by omega)
      refine ⟨l ++ [v], by simp [hl], fun i u hu => ?_⟩
      by_cases hi : i < l.length
      · rw [List.getElem?_append_left hi] at hu
        exact hr i u hu
      · rw [List.getElem?_append_right (by omega)] at hu
        have hi0 : i - l.length = 0 := by
          rcases hz : i - l.length with _ | q
          · rfl
          · rw [hz] at hu; simp at hu
        rw [hi0] at hu
        simp only [List.getElem?_cons_zero, Option.some.injEq] at hu
        subst hu
        have : i = k := by omega
        subst this
        exact ⟨cs', h1, h2, h3⟩
  obtain ⟨l, rfl, hr⟩ := hl2
  refine ⟨l, ⟨some a, cap, rfl, hl, rfl, Nat.le_trans hl (by simpa [maxLen] using hm), fun _ => ⟨a, rfl, fun j p hj => ?_⟩⟩, ?_, ?_⟩
  · obtain ⟨cs', h1, _, h3⟩ := hr j p hj
    obtain ⟨_, hlen, hcell⟩ := World.cells?_some h3
    refine ⟨cs', d.K_len h1, h1, fun i u hu => ?_⟩
    have hi : i < P.cellsOf e := by have := (List.getElem?_eq_some_iff.1 hu).1; omega
    have := hcell i hi
    rw [Go.Deep.add_add, hu, hc] at this
    exact this
  · intro y hy
    obtain ⟨i, hi⟩ := List.mem_iff_getElem?.1 hy
    obtain ⟨_, _, h2, _⟩ := hr i y hi
    exact h2
  · have := hw (((List.range l.length).map D).length + ((List.range (m - l.length)).map fun j => D (l.length + j)).length |> (· * P.bytesOf e)) (by
      simp [DataW.weights, ht])
    simp only [List.length_map, List.length_range] at this
    exact Nat.le_trans (Nat.mul_le_mul_right _ (Nat.le_add_right _ _)) this
theorem opensF_one {P : Program} {α : Type} {d : Kd α} {o : Nat} {f : Field} {Q : α → Prop} (hd : Opens P d f.type Q) (ho : f.offset = o) (hc : P.cellsOf f.type = d.sz) : OpensF P d o [f] Q := by
  intro H enc W base held n cs xs hl hx ht hw
  match xs, hx with
  | [x0], _ =>
    have h0 := ht 0 f rfl
    rw [ho, hc, List.take_of_length_le (by rw [List.length_drop]; omega)] at h0
    exact hd H enc W base held n _ x0 h0 (fun n hn => hw n (by simpa [DataW.weightsEach] using hn))
theorem opensF_cons {P : Program} {α β : Type} {d : Kd α} {d1 : Kd β} {o : Nat} {f : Field} {fs : List Field} {Q : α → Prop} {Q1 : β → Prop} (hd : Opens P d f.type Q) (ho : f.offset = o) (hc : P.cellsOf f.type = d.sz)
    (hr : OpensF P d1 (o + d.sz) fs Q1) : OpensF P (Kd.pair d d1) o (f :: fs) (fun x => Q x.1 ∧ Q1 x.2) := by
  intro H enc W base held n cs xs hl hx ht hw
  match xs, hx with
  | x0 :: xs, hx =>
    have h0 := ht 0 f rfl
    rw [ho, hc] at h0
    have hlp : cs.length = o + (d.sz + d1.sz) := hl
    obtain ⟨v, hv, hq⟩ := hd H enc W base held n _ x0 h0 (fun n hn => hw n (by
      simp only [List.map_cons, DataW.weightsEach, List.mem_append]; exact .inl hn))
    obtain ⟨v1, hv1, hq1⟩ := hr H enc W base held n cs xs (by omega) (by simpa using hx) (fun i g hg => by simpa using ht (i + 1) g (by simpa using hg)) (fun n hn => hw n (by
      simp only [List.map_cons, DataW.weightsEach, List.mem_append]; exact .inr hn))
    refine ⟨(v, v1), ⟨_, _, ?_, hv, hv1⟩, hq, hq1⟩
    rw [← List.drop_drop, List.take_append_drop]
theorem opens_struct {P : Program} {α : Type} {d : Kd α} {t : TypeId} {fs : Array Field} {Q : α → Prop} (ht : P.underlying t = some (.struct fs)) (hc : P.cellsOf t = d.sz) (hd : OpensF P d 0 fs.toList Q) : Opens P d t Q := by
  intro H enc W base held fuel cs x h hw
  obtain ⟨xs, n, _, rfl, hl, hlen, hf⟩ := DataW.trod_struct ht h
  have := hd H enc W base held n cs xs (by omega) (by simpa using hlen) (fun i f hi => hf i f (by simpa using hi)) (fun n hn => hw n (by simpa [DataW.weights, ht] using hn))
  simpa using this
theorem opens_iso {P : Program} {α β : Type} {d : Kd α} {t : TypeId} {Q : α → Prop} (f : β → α) (g : α → β) (hfg : ∀ a, f (g a) = a) (h : Opens P d t Q) : Opens P (Kd.iso d f) t (fun x => Q (f x)) := by
  intro H enc W base held fuel cs x hx hw
  obtain ⟨v, hv, hq⟩ := h H enc W base held fuel cs x hx hw
  refine ⟨g v, ?_, ?_⟩
  · show d.K W (f (g v)) cs
    rw [hfg]; exact hv
  · show Q (f (g v))
    rw [hfg]; exact hq
theorem opens_mono {P : Program} {α : Type} {d : Kd α} {t : TypeId} {Q Q' : α → Prop} (h : Opens P d t Q) (hq : ∀ a, Q a → Q' a) : Opens P d t Q' := by
  intro H enc W base held fuel cs x hx hw
  obtain ⟨v, hv, h1⟩ := h H enc W base held fuel cs x hx hw
  exact ⟨v, hv, hq v h1⟩
theorem opened {P : Program} {α : Type} {d : Kd α} {t : TypeId} {Q : α → Prop} (h : Opens P d t Q) {H : Type} {enc : TypeId × Value → H} {W : World} {base : Nat} {held : Bool} {v : Value} {x : DataW H} {p : List MemPlace}
    (ht : DataW.Trod enc P W base (fun _ => true) held t v x p) {ts : List TypeId} {ds : List (DataW H)} (hsz : (DataW.weightsEach P ts ds).all (· ≤ reachBytes) = true) (j : Nat) (hj : ts[j]? = some t) (hd : ds[j]? = some x) :
    ∃ a, d.K W a v.cells.toList ∧ Q a := by
  obtain ⟨fuel, hf⟩ := ht
  refine h H enc W base held fuel _ _ hf (fun n hn => ?_)
  have := List.all_eq_true.1 hsz n (DataW.weights_mem_each hj hd n hn)
  simpa using this
theorem open_struct {P : Program} {α : Type} {d : Kd α} {t : TypeId} {Q : α → Prop} (O : Opens P d t Q) {fs : Array Field} (hs : P.underlying t = some (.struct fs)) {H : Type} {enc : TypeId × Value → H} {W : World} {base b0 : Nat} {held : Bool} {r : Reach} {v : Value}
    {x : DataW H} {p : List MemPlace} (hv : Value.okWide P W r b0 t v) (ht : DataW.Trod enc P W base (fun _ => true) held t v x p) {ts : List TypeId} {ds : List (DataW H)} (hsz : (DataW.weightsEach P ts ds).all (· ≤ reachBytes) = true)
    (j : Nat) (hj : ts[j]? = some t) (hd : ds[j]? = some x) : ∃ a cs, v = .agg (List.toArray cs) ∧ d.K W a cs ∧ Q a := by
  obtain ⟨a, hK, hQ⟩ := opened O ht hsz j hj hd
  obtain ⟨cs, rfl, _⟩ := okWide_struct hs hv
  exact ⟨a, cs.toList, by rw [Array.toArray_toList], hK, hQ⟩
theorem open_row {P : Program} {α : Type} {d : Kd α} {t e : TypeId} {Q : α → Prop} (O : Opens P d e Q) (hs : P.underlying t = some (.slice e)) (hc : P.cellsOf e = d.sz) {H : Type} {enc : TypeId × Value → H} {W : World} {base b0 : Nat} {held : Bool} {r : Reach} {v : Value}
    {x : DataW H} {p : List MemPlace} (hv : Value.okWide P W r b0 t v) (ht : DataW.Trod enc P W base (fun _ => true) held t v x p) {ts : List TypeId} {ds : List (DataW H)} (hsz : (DataW.weightsEach P ts ds).all (· ≤ reachBytes) = true)
    (j : Nat) (hj : ts[j]? = some t) (hd : ds[j]? = some x) : ∃ A l c, v = .slice A l.length c ∧ l.length ≤ c ∧ d.C W A l.length l ∧ (∀ y ∈ l, Q y) ∧ l.length * P.bytesOf e ≤ reachBytes := by
  obtain ⟨l, hK, hQ, hb⟩ := opened (opens_slice (ek := 0) hs O hc) ht hsz j hj hd
  obtain ⟨A, len, cap, rfl⟩ := okWide_slice hs hv
  obtain ⟨A', c, hcs, hl, hC⟩ := hK
  have hcs' : [Value.slice A len cap] = [Value.slice A' l.length c] := hcs
  injection hcs' with h1 _
  injection h1 with h2 h3 h4
  subst h2; subst h3; subst h4
  exact ⟨A, l, cap, rfl, hl, hC, hQ, hb⟩
end Go.Proofs.Ytmjhgeinhhhodaa.Ext
end

section
namespace Go.Proofs.Ytmjhgeinhhhodaa.Ext
set_option linter.unusedVariables false
open Go.RowKit Go.Proofs.YtmjhgeinhhhodaaW.PrintWords Go.Proofs.Ytmjhgeinhhhodaa.P
def kTwo : Kd (Int × Int) := Kd.pair (Kd.int .i64) (Kd.int .i64)
theorem opens_agg : Opens Try.prog kTwo 23 (fun x => (Lit.int .i64 x.1).wf = true ∧ (Lit.int .i64 x.2).wf = true) := by
  refine opens_struct Try.underlying23 (by kernel_rfl) ?_
  show OpensF _ (Kd.pair _ _) 0 [_, _] _
  exact (opensF_cons (opens_int (k := .i64) (by kernel_rfl)) (by rfl) (by kernel_rfl) (opensF_one (opens_int (k := .i64) (by kernel_rfl)) (by rfl) (by kernel_rfl)))
theorem two_open {W : World} {x : Int × Int} {cs : List Value} (h : kTwo.K W x cs) : cs = [.int .i64 x.1, .int .i64 x.2] := by
  obtain ⟨_, _, rfl, rfl, rfl⟩ := h; rfl
end Go.Proofs.Ytmjhgeinhhhodaa.Ext
end

section
namespace Go.Proofs.Ytmjhgeinhhhodaa.Ext
set_option linter.unusedVariables false
open Go.RowKit Go.Proofs.YtmjhgeinhhhodaaW.PrintWords Go.Proofs.Ytmjhgeinhhhodaa.P
theorem u64_pos {n : Int} (h : (Lit.int .u64 n).wf = true) : 0 ≤ n := by
  simp only [Lit.wf, Bool.and_eq_true, decide_eq_true_eq] at h
  exact h.1
theorem opens_fact : Opens Try.prog k42 42 (fun _ => True) := by
  refine opens_mono (opens_iso (fun x : S42 => (x.f0, x.f1, x.f2)) (fun p => ⟨p.1, p.2.1, p.2.2⟩) (fun _ => rfl) (Q := fun x => (Lit.int .i64 x.1).wf = true ∧ ((∀ s ∈ x.2.1, s.size ≤ reachBytes) ∧ x.2.1.length * Try.prog.bytesOf 9 ≤ reachBytes) ∧ ((∀ s ∈ x.2.2, (Lit.int .i64 s).wf = true) ∧ x.2.2.length * Try.prog.bytesOf 2 ≤ reachBytes)) ?_) (fun _ _ => trivial)
  refine Ext.opens_struct Try.underlying42 (by kernel_rfl) ?_
  show OpensF _ (Kd.pair _ (Kd.pair _ _)) 0 [_, _, _] _
  exact (opensF_cons (opens_int (k := .i64) (by kernel_rfl)) (by rfl) (by kernel_rfl)
    (opensF_cons (opens_slice (by kernel_rfl) (opens_string (t := 9) (by kernel_rfl)) (by kernel_rfl)) (by rfl) (by kernel_rfl)
      (opensF_one (opens_slice (by kernel_rfl) (opens_int (t := 2) (k := .i64) (by kernel_rfl)) (by kernel_rfl)) (by rfl) (by kernel_rfl))))
theorem opens_many : Opens Try.prog k44 44 (fun x => 0 ≤ x.f1) := by
  refine opens_mono (opens_iso (fun x : S44 => (x.f0, x.f1)) (fun p => ⟨p.1, p.2⟩) (fun _ => rfl) (Q := fun x => True ∧ (Lit.int .u64 x.2).wf = true) ?_) (fun x h => u64_pos h.2)
  refine Ext.opens_struct Try.underlying44 (by kernel_rfl) ?_
  show OpensF _ (Kd.pair _ _) 0 [_, _] _
  refine opensF_cons (Q := fun _ => True) (Q1 := fun n => (Lit.int .u64 n).wf = true) ?_ ?_ ?_ ?_
  · exact opens_fact
  · rfl
  · kernel_rfl
  · refine opensF_one ?_ ?_ ?_
    · exact opens_int (k := .u64) (by kernel_rfl)
    · rfl
    · kernel_rfl
end Go.Proofs.Ytmjhgeinhhhodaa.Ext
end

section
namespace Go.Proofs.Ytmjhgeinhhhodaa.aggBags
set_option linter.unusedVariables false
set_option linter.unusedSimpArgs false
open Go.RowKit Go.Proofs.YtmjhgeinhhhodaaW.PrintWords Go.Proofs.Ytmjhgeinhhhodaa.Lib
open Go.ChangeShapes Go.WideShapes Go.ChangeAt
open Go.ChangeMaps (open_string shut_string)
theorem own : ownKnob Try.prog.godebug = none := by kernel_rfl
theorem laidOut : laidOutB Try.prog = true := by kernel_rfl
open Go.Proofs.Ytmjhgeinhhhodaa.P Go.Proofs.Ytmjhgeinhhhodaa.Ext Go.Proofs.Ytmjhgeinhhhodaa.Txt
def Tail (K : Nat) (c c1 : Int) (s : List S44) : Prop := ∀ k, K ≤ k → ((gristmilllaw06_of.f k c c1 s).bind fun bt537 => ((gristmillref04_Own.f k s).bind fun t542 => ((gristmilllaw06_of.f k c c1 t542).bind fun bt545 => ((gristmillref06_Same.f k bt537.1 bt537.2.1 bt537.2.2 bt545.1 bt545.2.1 bt545.2.2).bind fun t550 => (some t550))))) = some true
theorem tail_is {c c1 : Int} (hc : 1 ≤ c ∧ c ≤ 5) (h1 : 0 ≤ c1 ∧ c1 < 2) (s : List S44) (hf : FitL s) (ho : Ones s) (hl : s.length ≤ 400) : Tail 2000 c c1 s := by
  intro k hk
  obtain ⟨r, e, hr, hlen, hsp⟩ := own_is6 s hf ho hl k (by omega)
  have hst := sp_t_len hc h1 s hf (by omega)
  rw [of_is hc h1 s hf (by omega) k (by omega), e]
  simp only [Option.bind_some]
  rw [of_is hc h1 r hr (by omega) k (by omega), hsp c c1 hc h1]
  simp only [Option.bind_some]
  rw [same_is _ _ _ (by omega) k (by omega)]
  rfl
theorem tmod5 (n : Int) (h : 0 ≤ n) : 0 ≤ Int.tmod n 5 ∧ Int.tmod n 5 < 5 := ⟨Int.tmod_nonneg _ h, Int.tmod_lt_of_pos _ (by omega)⟩
theorem inner (l : List S44) (hf : FitL l) (hl : l.length ≤ 40) (c c1 : Int) (K : Nat) (i : Nat) (hi : i < l.length)
    (next : ∀ acc, FitL acc → Ones acc → acc.length ≤ 4 * (i + 1) → ∀ k, K ≤ k → gristmilllaw06_AggBags.l0 k l acc ((i + 1 : Nat) : Int) c c1 = some true) :
    ∀ (n d : Nat), n + d = (Int.tmod l[i].f1 5).toNat → ∀ acc, FitL acc → Ones acc → acc.length ≤ 4 * i + d → ∀ k, K + n + 1 ≤ k → gristmilllaw06_AggBags.l1 k l acc (i : Int) (d : Int) c c1 = some true := by
  have hm := hf _ (List.getElem_mem hi)
  have h5 := tmod5 _ hm.n0
  have e : wrap64 ((i : Int) + 1) = ((i + 1 : Nat) : Int) := by unfold wrap64; omega
  intro n
  induction n with
  | zero =>
    intro d hd acc ha ho hlen k hk
    obtain ⟨k, rfl⟩ : ∃ k', k = k' + 1 := ⟨k - 1, by omega⟩
    rw [gristmilllaw06_AggBags.l1, if_pos (by omega), if_pos (by omega), rd44 l i hi, if_neg (by omega), e]
    exact next acc ha ho (by omega) k (by omega)
  | succ n ih =>
    intro d hd acc ha ho hlen k hk
    obtain ⟨k, rfl⟩ : ∃ k', k = k' + 1 := ⟨k - 1, by omega⟩
    have hw : IntKind.u64.wrap ((d : Int) + 1) = ((d + 1 : Nat) : Int) := by rw [u64_small (by omega) (by omega)]; omega
    rw [gristmilllaw06_AggBags.l1, if_pos (by omega), if_pos (by omega), rd44 l i hi, if_pos (by omega), if_pos (by omega), hw]
    have hfm : FitM ⟨l[i].f0, 1⟩ := ⟨by show (0 : Int) ≤ 1; omega, by show (1 : Int) < _; omega, hm.d, hm.e, hm.s⟩
    exact ih (d + 1) (by omega) (acc ++ [⟨l[i].f0, 1⟩]) (ha.append (FitL.one hfm)) (fun m hx => by
      rcases List.mem_append.1 hx with h | h
      · exact ho m h
      · rw [List.mem_singleton.1 h]) (by rw [List.length_append, List.length_singleton]; omega) k (by omega)
theorem outer (l : List S44) (hf : FitL l) (hl : l.length ≤ 40) {c c1 : Int} (hc : 1 ≤ c ∧ c ≤ 5) (h1 : 0 ≤ c1 ∧ c1 < 2) : ∀ (n i : Nat), i + n = l.length → ∀ acc, FitL acc → Ones acc → acc.length ≤ 4 * i → ∀ k, 2001 + 8 * n ≤ k → gristmilllaw06_AggBags.l0 k l acc (i : Int) c c1 = some true := by
  intro n
  induction n with
  | zero =>
    intro i hi acc ha ho hlen k hk
    obtain ⟨k, rfl⟩ : ∃ k', k = k' + 1 := ⟨k - 1, by omega⟩
    rw [gristmilllaw06_AggBags.l0, if_neg (by omega)]
    exact tail_is hc h1 acc ha ho (by omega) k (by omega)
  | succ n ih =>
    intro i hi acc ha ho hlen k hk
    obtain ⟨k, rfl⟩ : ∃ k', k = k' + 1 := ⟨k - 1, by omega⟩
    have hil : i < l.length := by omega
    have h5 := tmod5 _ (hf _ (List.getElem_mem hil)).n0
    rw [gristmilllaw06_AggBags.l0, if_pos (by omega)]
    exact inner l hf hl c c1 (2001 + 8 * n) i hil (fun acc' ha' ho' hl' k' hk' => ih (i + 1) (by omega) acc' ha' ho' hl' k' hk') (Int.tmod l[i].f1 5).toNat 0 (by omega) acc ha ho (by omega) k (by omega)
theorem law_true (K0 : Nat) (hK : 3000 ≤ K0) (a0 a1 : Int) (l : List S44) (h0 : (Lit.int .i64 a0).wf = true) (h1 : (Lit.int .i64 a1).wf = true) (hl : ∀ m ∈ l, 0 ≤ m.f1) : gristmilllaw06_AggBags.f K0 a0 a1 l = some true := by
  obtain ⟨c0, c1, hc0, hc1, hr⟩ := right_is a0 a1 h0 h1
  obtain ⟨r, hf, hlen, e⟩ := hr l hl
  unfold gristmilllaw06_AggBags.f
  rw [show gristmilllaw06_awake.f = some true from rfl, e K0 (by omega)]
  simp only [Option.bind_some, if_true]
  exact outer r hf hlen hc0 hc1 r.length 0 (by omega) [] (fun m h => by cases h) (fun m h => by cases h) (Nat.zero_le _) K0 (by omega)
set_option maxRecDepth 100000 in
theorem lifted (os : Os) (started : os.Started) (H : Type) (enc : TypeId × Value → H) :
    ReturnsInHanded {} Try.checked os 7 .any (Rows.aggBagsSpec.pre6 enc Try.prog Try.f7 Rows.aggBagsRow.domain false) (Rows.aggBagsSpec.post enc Try.prog Try.f7 false true false false) := by
  refine returnsInHanded_of_change_sized (C := Try.checked) own started (by kernel_rfl) Try.func7
    (ChangeSpec.witness6 (enc := enc) (C := Try.checked) false ⟨#[], #[.agg #[.int .i64 0, .int .i64 0], .slice none 0 0], []⟩ 8 (by kernel_rfl) (by kernel_rfl) (by kernel_rfl) (by kernel_rfl)) ?_
  intro W base args ds gs before hval0 hW hcnd hsz _
  have hval : ∀ (j : Nat) t v, Try.f7.params[j]? = some t → args[j]? = some v → Value.okWide Try.prog W .any base t v := hval0
  have hW' := hW
  obtain ⟨p, q, hA0, hV, rfl, hfz, hnd⟩ := hW
  have hA : DataW.TrodAll enc Try.prog W 0 (fun _ => true) true Try.f7.params.toList args.toList ds p := hA0
  rw [Try.params7] at hA hval
  obtain ⟨v0, vs0, d0, ds0, p0, q0, hargs, rfl, rfl, h0, r0⟩ := trodAll_cons hA
  obtain ⟨v1, vs1, d1, ds1, p1, q1, rfl, rfl, rfl, h1, r1⟩ := trodAll_cons r0
  obtain ⟨rfl, rfl, rfl⟩ := trodAll_nil r1
  obtain rfl : args = #[v0, v1] := by cases args; simp_all
  obtain ⟨rfl, rfl⟩ := trodVars_none hV
  have k0 := h0
  have lt0 : ∀ x ∈ p0, x.block < W.heap.size := by obtain ⟨m, hm⟩ := k0; exact DataW.trod_lt m _ _ _ hm
  obtain ⟨a0, cs0, rfl, hK0, hQ0⟩ := open_struct opens_agg Try.underlying23 (hval 0 _ v0 rfl rfl) h0 hsz 0 rfl rfl
  obtain rfl := two_open hK0
  have k1 := h1
  have lt1 : ∀ x ∈ p1, x.block < W.heap.size := by obtain ⟨m, hm⟩ := k1; exact DataW.trod_lt m _ _ _ hm
  obtain ⟨A1, l1, c1, rfl, hl1, hC1, hQ1, hb1⟩ := open_row opens_many Try.underlying24 (by kernel_rfl) (hval 1 _ v1 rfl rfl) h1 hsz 1 rfl rfl
  clear hA0 hval0
  refine (gristmilllaw06_AggBags.calls 3000 a0.1 a0.2 A1 c1 l1 true W hC1 hl1 (law_true 3000 (Nat.le_refl _) _ _ _ hQ0.1 hQ0.2 (fun m hm => (hQ1 m hm)))).mono fun e W' ⟨he, bel⟩ => ?_
  subst he
  exact ⟨_, rfl, _, _, _, [], _, [], hW', trodAll_mk1 (shut_bool Try.underlying4 _), (trodAll_cons_mk (Below.trod laidOut (by kernel_rfl) (of_decide_eq_true (by kernel_rfl)) k0 bel lt0) (trodAll_cons_mk (Below.trod laidOut (by kernel_rfl) (of_decide_eq_true (by kernel_rfl)) k1 bel lt1) trodAll_mk0)), rfl, bel.frame _, fun h => by cases h⟩
theorem proved : Rows.AggBagsSaid :=
  OpenClaim.holds_of_wide 7 Try.f7 rfl rfl rfl rfl rfl rfl rfl ⟨rfl, rfl, rfl, rfl, rfl⟩ rfl rfl rfl rfl rfl (by kernel_rfl) Try.func7 (by kernel_rfl)
    (of_decide_eq_true (by kernel_rfl)) (by unfold Func.isWrapper; first | (rw [if_pos (by decide +kernel)]; kernel_rfl) | (rw [if_neg (by decide +kernel)]; exact ⟨rfl, rfl⟩))
    (fun os started H enc _ => lifted os started H enc)
end Go.Proofs.Ytmjhgeinhhhodaa.aggBags
end
