/- Texts of this repo, joined, without what this claim does not use: FactLaw, OpenK, OpenFact, LawFactChecks. -/
import Derived.Test.YtfeeahjaeapkoaaDFactChecks1
import Derived.Test.YtfeeahjaeapkoaaDFactChecks2
import Derived.Test.YtfeeahjaeapkoaaDFactChecks3
import Derived.Test.YtfeeahjaeapkoaaDFactChecks4
import Derived.SizedLaws
import Derived.Deep.Slices
import Derived.Test.YtfeeahjaeapkoaaRows
import Derived.ProofKit
import Derived.OpenShut
section
namespace Go.Proofs.Ytfeeahjaeapkoaa.Ext
set_option linter.unusedVariables false
set_option linter.unusedSimpArgs false
open Go.RowKit Go.Proofs.YtfeeahjaeapkoaaW.PrintWords Go.Proofs.Ytfeeahjaeapkoaa.P
theorem fine_val (d m : Int) : ∃ b : Bool, gristmillref04_Fine.f d m = some b ∧ fact_Fine.f d m = some (if b = true then 0 else 1) := by
  unfold gristmillref04_Fine.f fact_Fine.f
  by_cases h1 : d < 0
  · exact ⟨false, by rw [if_neg (by omega)], by rw [if_pos h1, if_neg (by decide)]⟩
  rw [if_pos (show d ≥ 0 by omega), if_neg h1]
  by_cases h2 : d > 8
  · exact ⟨false, by rw [if_neg (by omega)], by rw [if_pos h2, if_neg (by decide)]⟩
  rw [if_pos (show d ≤ 8 by omega), if_neg h2]
  by_cases h3 : m < 0
  · exact ⟨false, by rw [if_neg (by omega)], by rw [if_pos h3, if_neg (by decide)]⟩
  rw [if_pos (show m ≥ 0 by omega), if_neg h3]
  by_cases h4 : m > 8
  · exact ⟨false, by rw [decide_eq_false (by omega)], by rw [if_pos h4, if_neg (by decide)]⟩
  · exact ⟨true, by rw [decide_eq_true (by omega)], by rw [if_neg h4, if_pos rfl]⟩
theorem long_loop (x : List ByteArray) (t : Int) (m : List Int) (hx : x.length < 4611686018427387904) : ∀ (n i : Nat), i + n = x.length → ∀ k, n + 1 ≤ k → gristmillref04_Check.l0 k (i : Int) t x m = some (if tooLong (x.drop i) = true then 40 else 0) := by
  intro n
  induction n with
  | zero =>
    intro i hi k hk
    obtain ⟨k, rfl⟩ : ∃ k', k = k' + 1 := ⟨k - 1, by omega⟩
    rw [gristmillref04_Check.l0, if_neg (by omega), List.drop_of_length_le (by omega : x.length ≤ i)]
    rfl
  | succ n ih =>
    intro i hi k hk
    obtain ⟨k, rfl⟩ : ∃ k', k = k' + 1 := ⟨k - 1, by omega⟩
    have hil : i < x.length := by omega
    have e : wrap64 ((i : Int) + 1) = ((i + 1 : Nat) : Int) := by unfold wrap64; omega
    rw [gristmillref04_Check.l0, if_pos (by omega), if_pos (by omega), rdS x i hil, e, dropc x i hil]
    have ht : tooLong (x[i] :: x.drop (i + 1)) = (decide (64 < x[i].size) || tooLong (x.drop (i + 1))) := rfl
    rw [ht]
    by_cases h : 64 < x[i].size
    · rw [if_pos (by omega), decide_eq_true h, Bool.true_or, if_pos rfl]
    · rw [if_neg (by omega), decide_eq_false h, Bool.false_or]
      exact ih (i + 1) (by omega) k (by omega)
theorem check_same (d m t : Int) (l1 : List ByteArray) (l2 : List Int) (hx : l1.length < 4611686018427387904) (k : Nat) (hk : l1.length + 3 ≤ k) : ∃ v, fact_Check.f d m t l1 l2 = some v ∧ gristmillref04_Check.f k d m t l1 l2 = some v := by
  obtain ⟨b, h1, h2⟩ := fine_val d m
  obtain ⟨k, rfl⟩ : ∃ k', k = k' + 1 := ⟨k - 1, by omega⟩
  have hl := long_loop l1 t l2 hx l1.length 0 (by omega) k (by omega)
  rw [List.drop_zero] at hl
  have hl' : gristmillref04_Check.l0 k 0 t l1 l2 = some (if tooLong l1 = true then 40 else 0) := hl
  unfold fact_Check.f gristmillref04_Check.f slices_ContainsFunc_string_string_at_fact_Check_1.f
  rw [h1, h2]
  simp only [Option.bind_some]
  cases b
  · exact ⟨1, by rw [if_neg (by decide), if_neg (by decide)], by rw [if_neg (by decide)]⟩
  rw [if_pos (show (if true = true then (0 : Int) else 1) = 0 by decide), if_pos rfl]
  by_cases h3 : t < 0
  · exact ⟨40, by rw [if_pos h3], by rw [if_pos h3, gristmillref04_Check.j0, if_pos rfl]⟩
  rw [if_neg h3, if_neg h3]
  by_cases h4 : t ≥ 1099511627776
  · exact ⟨40, by rw [if_pos h4], by rw [if_pos h4, gristmillref04_Check.j0, if_pos rfl]⟩
  rw [if_neg h4, if_neg h4]
  by_cases h5 : (l1.length : Int) = d
  · rw [if_pos h5, if_pos h5]
    by_cases h6 : (l2.length : Int) = m
    · have e : ((l2.length : Int) != m) = false := by rw [h6]; simp
      refine ⟨if tooLong l1 = true then 40 else 0, ?_, ?_⟩
      · rw [if_pos h6]; split <;> rfl
      · rw [e, gristmillref04_Check.j0, if_neg (by decide), hl']
    · have e : ((l2.length : Int) != m) = true := by rw [bne_iff_ne]; exact h6
      exact ⟨40, by rw [if_neg h6], by rw [e, gristmillref04_Check.j0, if_pos rfl]⟩
  · exact ⟨40, by rw [if_neg h5], by rw [if_neg h5, gristmillref04_Check.j0, if_pos rfl]⟩
theorem checks_true (k : Nat) (d m t1 : Int) (x1 : List ByteArray) (y1 : List Int) (t2 : Int) (x2 : List ByteArray) (y2 : List Int) (b1 : x1.length < 4611686018427387904) (b2 : y1.length < 4611686018427387904) (b3 : x2.length < 4611686018427387904) (b4 : y2.length < 4611686018427387904)
    (hk : 4 * (x1.length + y1.length + x2.length + y2.length) + 20 ≤ k) : gristmilllaw04_FactChecks.f k d m t1 x1 y1 t2 x2 y2 = some true := by
  obtain ⟨b, h1, h2⟩ := fine_val d m
  obtain ⟨v, h3, h4⟩ := check_same d m t1 x1 y1 b1 k (by omega)
  have h5 := compare_is t1 t2 x1 x2 y1 y2 b1 b2 k (by omega)
  have h6 := ref_is t1 t2 x1 x2 y1 y2 b1 b3 b2 b4 k (by omega)
  have h7 := compare_is t1 t1 x1 x1 y1 y1 b1 b2 k (by omega)
  rw [factC_self] at h7
  unfold gristmilllaw04_FactChecks.f
  rw [show gristmilllaw04_awake.f = some true from rfl, h1, h2, h3, h4, h5, h6, h7]
  simp only [Option.bind_some]
  cases b <;> simp
end Go.Proofs.Ytfeeahjaeapkoaa.Ext
end

section
namespace Go.Proofs.Ytfeeahjaeapkoaa.Ext
set_option linter.unusedVariables false
set_option linter.unusedSimpArgs false
open Go.RowKit Go.Proofs.YtfeeahjaeapkoaaW.PrintWords
open Go.ChangeShapes Go.WideShapes Go.ChangeAt Go.Deep
def Opens (P : Program) {α : Type} (d : Kd α) (t : TypeId) (Q : α → Prop) : Prop :=
  ∀ (H : Type) (enc : TypeId × Value → H) (W : World) (base : Nat) (held : Bool) (fuel : Nat) (cs : List Value) (x : DataW H × List MemPlace),
    DataW.trod enc P W base (fun _ => true) held fuel t cs = some x → (∀ n ∈ x.1.weights P t, n ≤ reachBytes) → ∃ v, d.K W v cs ∧ Q v
def OpensF (P : Program) {α : Type} (d : Kd α) (o : Nat) (fs : List Field) (Q : α → Prop) : Prop :=
  ∀ (H : Type) (enc : TypeId × Value → H) (W : World) (base : Nat) (held : Bool) (n : Nat) (cs : List Value) (xs : List (DataW H × List MemPlace)),
    cs.length = o + d.sz → xs.length = fs.length →
    (∀ (i : Nat) (f : Field), fs[i]? = some f → DataW.trod enc P W base (fun _ => true) held n f.type ((cs.drop f.offset).take (P.cellsOf f.type)) = xs[i]?) →
    (∀ n ∈ DataW.weightsEach P (fs.map (·.type)) (xs.map (·.1)), n ≤ reachBytes) → ∃ v, d.K W v (cs.drop o) ∧ Q v
theorem opens_int {P : Program} {t : TypeId} {k : IntKind} (ht : P.underlying t = some (.int k)) : Opens P (Kd.int k) t (fun n => (Lit.int k n).wf = true) := by
  intro H enc W base held fuel cs x h _
  obtain ⟨n, rfl, _, hw⟩ := DataW.trod_int ht h
  exact ⟨n, rfl, hw⟩
theorem opens_string {P : Program} {t : TypeId} (ht : P.underlying t = some .string) : Opens P Kd.string t (fun s => s.size ≤ reachBytes) := by
  intro H enc W base held fuel cs x h hw
  obtain ⟨s, rfl, rfl, _⟩ := DataW.trod_string ht h
  refine ⟨s, rfl, ?_⟩
  have := hw s.data.toList.length (by simp [DataW.weights])
  simpa using this
theorem weights_all {H : Type} {P : Program} {e : TypeId} {d : DataW H} : ∀ {ds : List (DataW H)}, d ∈ ds → ∀ n ∈ d.weights P e, n ∈ DataW.weightsAll P e ds
  | [], h, _, _ => by cases h
  | d0 :: ds, h, n, hn => by
    simp only [DataW.weightsAll, List.mem_append]
    rcases List.mem_cons.1 h with rfl | h
    · exact .inl hn
    · exact .inr (weights_all h n hn)
theorem opens_slice {P : Program} {α : Type} {d : Kd α} {t e : TypeId} {ek : Nat} {Q : α → Prop} (ht : P.underlying t = some (.slice e)) (hd : Opens P d e Q) (hc : P.cellsOf e = d.sz) :
    Opens P (Kd.slice ek d) t (fun l => (∀ x ∈ l, Q x) ∧ l.length * P.bytesOf e ≤ reachBytes) := by
  intro H enc W base held fuel cs x h hw
  rcases open_slice ht h with ⟨rfl, _⟩ | ⟨a, len, cap, m, n, D, Pl, rfl, hb, hl, hm, hmm, rfl, hx⟩
  · exact ⟨[], ⟨none, 0, rfl, Nat.le_refl _, Kd.C_nil _ _⟩, by simp, by simp⟩
  have hml : len ≤ m := by rw [hmm]; simpa using hl
  have hat : ∀ i, i < len → ∃ v cs', d.K W v cs' ∧ Q v ∧ W.cells? base (a.add (i * P.cellsOf e)) (P.cellsOf e) = some cs' := by
    intro i hi
    obtain ⟨cs', h1, h2⟩ := hx i (Nat.lt_of_lt_of_le hi hml)
    obtain ⟨v, hv, hq⟩ := hd H enc W base held n cs' _ h2 (fun n hn => hw n (by
      simp only [DataW.weights, ht, List.mem_cons, List.mem_append]
      exact .inr (.inl (weights_all (List.mem_map.2 ⟨i, by simpa using hi, rfl⟩) n hn))))
    exact ⟨v, cs', hv, hq, h1⟩
  have hl2 : ∃ l : List α, l.length = len ∧ ∀ i v, l[i]? = some v → ∃ cs', d.K W v cs' ∧ Q v ∧ W.cells? base (a.add (i * P.cellsOf e)) (P.cellsOf e) = some cs' := by
    clear hw hx hmm hml hm hl h
    induction len with
    | zero => exact ⟨[], rfl, fun i v h => by simp at h⟩
    | succ k ih =>
      obtain ⟨l, hl, hr⟩ := ih (fun i hi => hat i (by omega))
      obtain ⟨v, cs', h1, h2, h3⟩ := hat k (by omega)
      refine ⟨l ++ [v], by simp [hl], fun i u hu => ?_⟩
      by_cases hi : i < l.length
      · rw [List.getElem?_append_left hi] at hu
        exact hr i u hu
      · rw [List.getElem?_append_right (by omega)] at hu
        have hi0 : i - l.length = 0 := by
          rcases hz : i - l.length with _ | q
          · rfl
          · rw [hz] at hu; simp at hu
        rw [hi0] at hu
        simp only [List.getElem?_cons_zero, Option.some.injEq] at hu
        subst hu
        have : i = k := by omega
        subst this
        exact ⟨cs', h1, h2, h3⟩
  obtain ⟨l, rfl, hr⟩ := hl2
  refine ⟨l, ⟨some a, cap, rfl, hl, rfl, Nat.le_trans hl (by simpa [maxLen] using hm), fun _ => ⟨a, rfl, fun j p hj => ?_⟩⟩, ?_, ?_⟩
  · obtain ⟨cs', h1, _, h3⟩ := hr j p hj
    obtain ⟨_, hlen, hcell⟩ := World.cells?_some h3
    refine ⟨cs', d.K_len h1, h1, fun i u hu => ?_⟩
    have hi : i < P.cellsOf e := by have := (List.getElem?_eq_some_iff.1 hu).1; omega
    have := hcell i hi
    rw [Go.Deep.add_add, hu, hc] at this
    exact this
  · intro y hy
    obtain ⟨i, hi⟩ := List.mem_iff_getElem?.1 hy
    obtain ⟨_, _, h2, _⟩ := hr i y hi
    exact h2
  · have := hw (((List.range l.length).map D).length + ((List.range (m - l.length)).map fun j => D (l.length + j)).length |> (· * P.bytesOf e)) (by
      simp [DataW.weights, ht])
    simp only [List.length_map, List.length_range] at this
    exact Nat.le_trans (Nat.mul_le_mul_right _ (Nat.le_add_right _ _)) this
theorem opensF_one {P : Program} {α : Type} {d : Kd α} {o : Nat} {f : Field} {Q : α → Prop} (hd : Opens P d f.type Q) (ho : f.offset = o) (hc : P.cellsOf f.type = d.sz) : OpensF P d o [f] Q := by
  intro H enc W base held n cs xs hl hx ht hw
  match xs, hx with
  | [x0], _ =>
    have h0 := ht 0 f rfl
    rw [ho, hc, List.take_of_length_le (by rw [List.length_drop]; omega)] at h0
    exact hd H enc W base held n _ x0 h0 (fun n hn => hw n (by simpa [DataW.weightsEach] using hn))
theorem opensF_cons {P : Program} {α β : Type} {d : Kd α} {d1 : Kd β} {o : Nat} {f : Field} {fs : List Field} {Q : α → Prop} {Q1 : β → Prop} (hd : Opens P d f.type Q) (ho : f.offset = o) (hc : P.cellsOf f.type = d.sz)
    (hr : OpensF P d1 (o + d.sz) fs Q1) : OpensF P (Kd.pair d d1) o (f :: fs) (fun x => Q x.1 ∧ Q1 x.2) := by
  intro H enc W base held n cs xs hl hx ht hw
  match xs, hx with
  | x0 :: xs, hx =>
    have h0 := ht 0 f rfl
    rw [ho, hc] at h0
    have hlp : cs.length = o + (d.sz + d1.sz) := hl
    obtain ⟨v, hv, hq⟩ := hd H enc W base held n _ x0 h0 (fun n hn => hw n (by
      simp only [List.map_cons, DataW.weightsEach, List.mem_append]; exact .inl hn))
    obtain ⟨v1, hv1, hq1⟩ := hr H enc W base held n cs xs (by omega) (by simpa using hx) (fun i g hg => by simpa using ht (i + 1) g (by simpa using hg)) (fun n hn => hw n (by
      simp only [List.map_cons, DataW.weightsEach, List.mem_append]; exact .inr hn))
    refine ⟨(v, v1), ⟨_, _, ?_, hv, hv1⟩, hq, hq1⟩
    rw [← List.drop_drop, List.take_append_drop]
theorem opens_struct {P : Program} {α : Type} {d : Kd α} {t : TypeId} {fs : Array Field} {Q : α → Prop} (ht : P.underlying t = some (.struct fs)) (hc : P.cellsOf t = d.sz) (hd : OpensF P d 0 fs.toList Q) : Opens P d t Q := by
  intro H enc W base held fuel cs x h hw
  obtain ⟨xs, n, _, rfl, hl, hlen, hf⟩ := DataW.trod_struct ht h
  have := hd H enc W base held n cs xs (by omega) (by simpa using hlen) (fun i f hi => hf i f (by simpa using hi)) (fun n hn => hw n (by simpa [DataW.weights, ht] using hn))
  simpa using this
theorem opens_mono {P : Program} {α : Type} {d : Kd α} {t : TypeId} {Q Q' : α → Prop} (h : Opens P d t Q) (hq : ∀ a, Q a → Q' a) : Opens P d t Q' := by
  intro H enc W base held fuel cs x hx hw
  obtain ⟨v, hv, h1⟩ := h H enc W base held fuel cs x hx hw
  exact ⟨v, hv, hq v h1⟩
theorem opened {P : Program} {α : Type} {d : Kd α} {t : TypeId} {Q : α → Prop} (h : Opens P d t Q) {H : Type} {enc : TypeId × Value → H} {W : World} {base : Nat} {held : Bool} {v : Value} {x : DataW H} {p : List MemPlace}
    (ht : DataW.Trod enc P W base (fun _ => true) held t v x p) {ts : List TypeId} {ds : List (DataW H)} (hsz : (DataW.weightsEach P ts ds).all (· ≤ reachBytes) = true) (j : Nat) (hj : ts[j]? = some t) (hd : ds[j]? = some x) :
    ∃ a, d.K W a v.cells.toList ∧ Q a := by
  obtain ⟨fuel, hf⟩ := ht
  refine h H enc W base held fuel _ _ hf (fun n hn => ?_)
  have := List.all_eq_true.1 hsz n (DataW.weights_mem_each hj hd n hn)
  simpa using this
theorem open_struct {P : Program} {α : Type} {d : Kd α} {t : TypeId} {Q : α → Prop} (O : Opens P d t Q) {fs : Array Field} (hs : P.underlying t = some (.struct fs)) {H : Type} {enc : TypeId × Value → H} {W : World} {base b0 : Nat} {held : Bool} {r : Reach} {v : Value}
    {x : DataW H} {p : List MemPlace} (hv : Value.okWide P W r b0 t v) (ht : DataW.Trod enc P W base (fun _ => true) held t v x p) {ts : List TypeId} {ds : List (DataW H)} (hsz : (DataW.weightsEach P ts ds).all (· ≤ reachBytes) = true)
    (j : Nat) (hj : ts[j]? = some t) (hd : ds[j]? = some x) : ∃ a cs, v = .agg (List.toArray cs) ∧ d.K W a cs ∧ Q a := by
  obtain ⟨a, hK, hQ⟩ := opened O ht hsz j hj hd
  obtain ⟨cs, rfl, _⟩ := okWide_struct hs hv
  exact ⟨a, cs.toList, by rw [Array.toArray_toList], hK, hQ⟩
end Go.Proofs.Ytfeeahjaeapkoaa.Ext
end

section
namespace Go.Proofs.Ytfeeahjaeapkoaa.Ext
set_option linter.unusedVariables false
open Go.RowKit Go.Proofs.YtfeeahjaeapkoaaW.PrintWords Go.Proofs.Ytfeeahjaeapkoaa.P
def kTwo : Kd (Int × Int) := Kd.pair (Kd.int .i64) (Kd.int .i64)
theorem opens_schema : Opens Try.prog kTwo 23 (fun x => (Lit.int .i64 x.1).wf = true ∧ (Lit.int .i64 x.2).wf = true) := by
  refine opens_struct Try.underlying23 (by kernel_rfl) ?_
  show OpensF _ (Kd.pair _ _) 0 [_, _] _
  exact (opensF_cons (opens_int (k := .i64) (by kernel_rfl)) (by rfl) (by kernel_rfl) (opensF_one (opens_int (k := .i64) (by kernel_rfl)) (by rfl) (by kernel_rfl)))
theorem two_open {W : World} {x : Int × Int} {cs : List Value} (h : kTwo.K W x cs) : cs = [.int .i64 x.1, .int .i64 x.2] := by
  obtain ⟨_, _, rfl, rfl, rfl⟩ := h; rfl
def kFact : Kd (Int × List ByteArray × List Int) := Kd.pair (Kd.int .i64) (Kd.pair (Kd.slice 9 Kd.string) (Kd.slice 2 (Kd.int .i64)))
theorem opens_fact : Opens Try.prog kFact 27 (fun x => x.2.1.length ≤ 140737488355328 ∧ x.2.2.length ≤ 140737488355328) := by
  refine opens_mono (Q := fun x => (Lit.int .i64 x.1).wf = true ∧ ((∀ s ∈ x.2.1, s.size ≤ reachBytes) ∧ x.2.1.length * Try.prog.bytesOf 9 ≤ reachBytes) ∧ ((∀ n ∈ x.2.2, (Lit.int .i64 n).wf = true) ∧ x.2.2.length * Try.prog.bytesOf 2 ≤ reachBytes)) ?_ (fun x h => ?_)
  · refine opens_struct Try.underlying27 (by kernel_rfl) ?_
    show OpensF _ (Kd.pair _ (Kd.pair _ _)) 0 [_, _, _] _
    exact (opensF_cons (opens_int (k := .i64) (by kernel_rfl)) (by rfl) (by kernel_rfl)
      (opensF_cons (opens_slice (by kernel_rfl) (opens_string (t := 9) (by kernel_rfl)) (by kernel_rfl)) (by rfl) (by kernel_rfl)
        (opensF_one (opens_slice (by kernel_rfl) (opens_int (t := 2) (k := .i64) (by kernel_rfl)) (by kernel_rfl)) (by rfl) (by kernel_rfl))))
  · have h1 := h.2.1.2
    have h2 := h.2.2.2
    rw [show Try.prog.bytesOf 9 = 16 by kernel_rfl] at h1
    rw [show Try.prog.bytesOf 2 = 8 by kernel_rfl] at h2
    have h3 := reachBytes_lt
    have h4 : (2 : Nat) ^ 47 = 140737488355328 := by decide
    omega
theorem fact_open {W : World} {x : Int × List ByteArray × List Int} {cs : List Value} (h : kFact.K W x cs) : ∃ A c A2 c2, cs = [.int .i64 x.1, .slice A x.2.1.length c, .slice A2 x.2.2.length c2] ∧ x.2.1.length ≤ c ∧ Kd.string.C W A x.2.1.length x.2.1 ∧ x.2.2.length ≤ c2 ∧ (Kd.int .i64).C W A2 x.2.2.length x.2.2 := by
  obtain ⟨_, _, rfl, rfl, _, _, rfl, ⟨A, c, rfl, hl, hC⟩, A2, c2, rfl, hl2, hC2⟩ := h
  exact ⟨A, c, A2, c2, rfl, hl, hC, hl2, hC2⟩
end Go.Proofs.Ytfeeahjaeapkoaa.Ext
end

section
namespace Go.Proofs.Ytfeeahjaeapkoaa.factChecks
set_option linter.unusedVariables false
set_option linter.unusedSimpArgs false
open Go.RowKit Go.Proofs.YtfeeahjaeapkoaaW.PrintWords Go.Proofs.Ytfeeahjaeapkoaa.Lib
open Go.ChangeShapes Go.WideShapes Go.ChangeAt
open Go.ChangeMaps (open_string shut_string)
theorem own : ownKnob Try.prog.godebug = none := by kernel_rfl
theorem laidOut : laidOutB Try.prog = true := by kernel_rfl
open Go.Proofs.Ytfeeahjaeapkoaa.P Go.Proofs.Ytfeeahjaeapkoaa.Ext
set_option maxRecDepth 100000 in
theorem lifted (os : Os) (started : os.Started) (H : Type) (enc : TypeId × Value → H) :
    ReturnsInHanded {} Try.checked os 3 .any (Rows.factChecksSpec.pre6 enc Try.prog Try.f3 Rows.factChecksRow.domain false) (Rows.factChecksSpec.post enc Try.prog Try.f3 false true false false) := by
  refine returnsInHanded_of_change_sized (C := Try.checked) own started (by kernel_rfl) Try.func3
    (ChangeSpec.witness6 (enc := enc) (C := Try.checked) false ⟨#[], #[.agg #[.int .i64 0, .int .i64 0], .agg #[.int .i64 0, .slice none 0 0, .slice none 0 0], .agg #[.int .i64 0, .slice none 0 0, .slice none 0 0]], []⟩ 8 (by kernel_rfl) (by kernel_rfl) (by kernel_rfl) (by kernel_rfl)) ?_
  intro W base args ds gs before hval0 hW hcnd hsz _
  have hval : ∀ (j : Nat) t v, Try.f3.params[j]? = some t → args[j]? = some v → Value.okWide Try.prog W .any base t v := hval0
  have hW' := hW
  obtain ⟨p, q, hA0, hV, rfl, hfz, hnd⟩ := hW
  have hA : DataW.TrodAll enc Try.prog W 0 (fun _ => true) true Try.f3.params.toList args.toList ds p := hA0
  rw [Try.params3] at hA hval
  obtain ⟨v0, vs0, d0, ds0, p0, q0, hargs, rfl, rfl, h0, r0⟩ := trodAll_cons hA
  obtain ⟨v1, vs1, d1, ds1, p1, q1, rfl, rfl, rfl, h1, r1⟩ := trodAll_cons r0
  obtain ⟨v2, vs2, d2, ds2, p2, q2, rfl, rfl, rfl, h2, r2⟩ := trodAll_cons r1
  obtain ⟨rfl, rfl, rfl⟩ := trodAll_nil r2
  obtain rfl : args = #[v0, v1, v2] := by cases args; simp_all
  obtain ⟨rfl, rfl⟩ := trodVars_none hV
  have k0 := h0
  have lt0 : ∀ x ∈ p0, x.block < W.heap.size := by obtain ⟨m, hm⟩ := k0; exact DataW.trod_lt m _ _ _ hm
  obtain ⟨a0, cs0, rfl, hK0, hQ0⟩ := open_struct opens_schema Try.underlying23 (hval 0 _ v0 rfl rfl) h0 hsz 0 rfl rfl
  obtain rfl := two_open hK0
  have k1 := h1
  have lt1 : ∀ x ∈ p1, x.block < W.heap.size := by obtain ⟨m, hm⟩ := k1; exact DataW.trod_lt m _ _ _ hm
  obtain ⟨a1, cs1, rfl, hK1, hQ1⟩ := open_struct opens_fact Try.underlying27 (hval 1 _ v1 rfl rfl) h1 hsz 1 rfl rfl
  obtain ⟨A1, c1, B1, d1, rfl, hl1, hC1, hm1, hD1⟩ := fact_open hK1
  have k2 := h2
  have lt2 : ∀ x ∈ p2, x.block < W.heap.size := by obtain ⟨m, hm⟩ := k2; exact DataW.trod_lt m _ _ _ hm
  obtain ⟨a2, cs2, rfl, hK2, hQ2⟩ := open_struct opens_fact Try.underlying27 (hval 2 _ v2 rfl rfl) h2 hsz 2 rfl rfl
  obtain ⟨A2, c2, B2, d2, rfl, hl2, hC2, hm2, hD2⟩ := fact_open hK2
  clear hA0 hval0
  refine (gristmilllaw04_FactChecks.calls (4 * (a1.2.1.length + a1.2.2.length + a2.2.1.length + a2.2.2.length) + 20) a0.1 a0.2 a1.1 A1 c1 a1.2.1 B1 d1 a1.2.2 a2.1 A2 c2 a2.2.1 B2 d2 a2.2.2 true W hC1 hl1 hD1 hm1 hC2 hl2 hD2 hm2 (checks_true _ _ _ _ _ _ _ _ _ (by omega) (by omega) (by omega) (by omega) (Nat.le_refl _))).mono fun e W' ⟨he, bel⟩ => ?_
  subst he
  exact ⟨_, rfl, _, _, _, [], _, [], hW', trodAll_mk1 (shut_bool Try.underlying4 _), (trodAll_cons_mk (Below.trod laidOut (by kernel_rfl) (of_decide_eq_true (by kernel_rfl)) k0 bel lt0) (trodAll_cons_mk (Below.trod laidOut (by kernel_rfl) (of_decide_eq_true (by kernel_rfl)) k1 bel lt1) (trodAll_cons_mk (Below.trod laidOut (by kernel_rfl) (of_decide_eq_true (by kernel_rfl)) k2 bel lt2) trodAll_mk0))), rfl, bel.frame _, fun h => by cases h⟩
theorem proved : Rows.FactChecksSaid :=
  OpenClaim.holds_of_wide 3 Try.f3 rfl rfl rfl rfl rfl rfl rfl ⟨rfl, rfl, rfl, rfl, rfl⟩ rfl rfl rfl rfl rfl (by kernel_rfl) Try.func3 (by kernel_rfl)
    (of_decide_eq_true (by kernel_rfl)) (by unfold Func.isWrapper; first | (rw [if_pos (by decide +kernel)]; kernel_rfl) | (rw [if_neg (by decide +kernel)]; exact ⟨rfl, rfl⟩))
    (fun os started H enc _ => lifted os started H enc)
end Go.Proofs.Ytfeeahjaeapkoaa.factChecks
end
