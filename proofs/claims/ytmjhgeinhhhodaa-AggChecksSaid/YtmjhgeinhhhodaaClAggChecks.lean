/- Several texts of this repo in one: OpenK, OpenAgg, May, LawAggChecks. -/
import Derived.Test.YtmjhgeinhhhodaaOpen
import Derived.SizedLaws
import Derived.Deep.Slices
import Derived.Test.YtmjhgeinhhhodaaP0
import Derived.Test.YtmjhgeinhhhodaaP22
import Derived.Test.YtmjhgeinhhhodaaP28
import Derived.Test.YtmjhgeinhhhodaaP21
import Derived.Test.YtmjhgeinhhhodaaP27
import Derived.Test.YtmjhgeinhhhodaaP23
import Derived.Test.YtmjhgeinhhhodaaP24
import Derived.Test.YtmjhgeinhhhodaaP25
import Derived.Test.YtmjhgeinhhhodaaExtCheck
import Derived.Test.YtmjhgeinhhhodaaExtLong
import Derived.Test.YtmjhgeinhhhodaaP29
import Derived.Test.YtmjhgeinhhhodaaRows
import Derived.ProofKit
import Derived.OpenShut
section
/- Opening arguments of any shape into the words of the contracts: by kinds. -/
namespace Go.Proofs.Ytmjhgeinhhhodaa.Ext
set_option linter.unusedVariables false
set_option linter.unusedSimpArgs false
open Go.RowKit Go.Proofs.YtmjhgeinhhhodaaW.PrintWords
open Go.ChangeShapes Go.WideShapes Go.ChangeAt Go.Deep

/-- What is read as data of type t, of a weight that fits, is a value of the kind d that meets Q. -/
def Opens (P : Program) {α : Type} (d : Kd α) (t : TypeId) (Q : α → Prop) : Prop :=
  ∀ (H : Type) (enc : TypeId × Value → H) (W : World) (base : Nat) (held : Bool) (fuel : Nat) (cs : List Value) (x : DataW H × List MemPlace),
    DataW.trod enc P W base (fun _ => true) held fuel t cs = some x → (∀ n ∈ x.1.weights P t, n ≤ reachBytes) → ∃ v, d.K W v cs ∧ Q v

def OpensF (P : Program) {α : Type} (d : Kd α) (o : Nat) (fs : List Field) (Q : α → Prop) : Prop :=
  ∀ (H : Type) (enc : TypeId × Value → H) (W : World) (base : Nat) (held : Bool) (n : Nat) (cs : List Value) (xs : List (DataW H × List MemPlace)),
    cs.length = o + d.sz → xs.length = fs.length →
    (∀ (i : Nat) (f : Field), fs[i]? = some f → DataW.trod enc P W base (fun _ => true) held n f.type ((cs.drop f.offset).take (P.cellsOf f.type)) = xs[i]?) →
    (∀ n ∈ DataW.weightsEach P (fs.map (·.type)) (xs.map (·.1)), n ≤ reachBytes) → ∃ v, d.K W v (cs.drop o) ∧ Q v

theorem opens_int {P : Program} {t : TypeId} {k : IntKind} (ht : P.underlying t = some (.int k)) : Opens P (Kd.int k) t (fun n => (Lit.int k n).wf = true) := by
  intro H enc W base held fuel cs x h _
  obtain ⟨n, rfl, _, hw⟩ := DataW.trod_int ht h
  exact ⟨n, rfl, hw⟩

theorem opens_bool {P : Program} {t : TypeId} (ht : P.underlying t = some .bool) : Opens P Kd.bool t (fun _ => True) := by
  intro H enc W base held fuel cs x h _
  obtain ⟨n, rfl, _⟩ := DataW.trod_bool ht h
  exact ⟨n, rfl, trivial⟩

theorem opens_string {P : Program} {t : TypeId} (ht : P.underlying t = some .string) : Opens P Kd.string t (fun s => s.size ≤ reachBytes) := by
  intro H enc W base held fuel cs x h hw
  obtain ⟨s, rfl, rfl, _⟩ := DataW.trod_string ht h
  refine ⟨s, rfl, ?_⟩
  have := hw s.data.toList.length (by simp [DataW.weights])
  simpa using this

theorem weights_all {H : Type} {P : Program} {e : TypeId} {d : DataW H} : ∀ {ds : List (DataW H)}, d ∈ ds → ∀ n ∈ d.weights P e, n ∈ DataW.weightsAll P e ds
  | [], h, _, _ => by cases h
  | d0 :: ds, h, n, hn => by
    simp only [DataW.weightsAll, List.mem_append]
    rcases List.mem_cons.1 h with rfl | h
    · exact .inl hn
    · exact .inr (weights_all h n hn)

theorem opens_slice {P : Program} {α : Type} {d : Kd α} {t e : TypeId} {ek : Nat} {Q : α → Prop} (ht : P.underlying t = some (.slice e)) (hd : Opens P d e Q) (hc : P.cellsOf e = d.sz) :
    Opens P (Kd.slice ek d) t (fun l => (∀ x ∈ l, Q x) ∧ l.length * P.bytesOf e ≤ reachBytes) := by
  intro H enc W base held fuel cs x h hw
  rcases open_slice ht h with ⟨rfl, _⟩ | ⟨a, len, cap, m, n, D, Pl, rfl, hb, hl, hm, hmm, rfl, hx⟩
  · exact ⟨[], ⟨none, 0, rfl, Nat.le_refl _, Kd.C_nil _ _⟩, by simp, by simp⟩
  have hml : len ≤ m := by rw [hmm]; simpa using hl
  have hat : ∀ i, i < len → ∃ v cs', d.K W v cs' ∧ Q v ∧ W.cells? base (a.add (i * P.cellsOf e)) (P.cellsOf e) = some cs' := by
    intro i hi
    obtain ⟨cs', h1, h2⟩ := hx i (Nat.lt_of_lt_of_le hi hml)
    obtain ⟨v, hv, hq⟩ := hd H enc W base held n cs' _ h2 (fun n hn => hw n (by
      simp only [DataW.weights, ht, List.mem_cons, List.mem_append]
      exact .inr (.inl (weights_all (List.mem_map.2 ⟨i, by simpa using hi, rfl⟩) n hn))))
    exact ⟨v, cs', hv, hq, h1⟩
  have hl2 : ∃ l : List α, l.length = len ∧ ∀ i v, l[i]? = some v → ∃ cs', d.K W v cs' ∧ Q v ∧ W.cells? base (a.add (i * P.cellsOf e)) (P.cellsOf e) = some cs' := by
    clear hw hx hmm hml hm hl h
    induction len with
    | zero => exact ⟨[], rfl, fun i v h => by simp at h⟩
    | succ k ih =>
      obtain ⟨l, hl, hr⟩ := ih (fun i hi => hat i (by omega))
      obtain ⟨v, cs', h1, h2, h3⟩ := hat k (by omega)
      refine ⟨l ++ [v], by simp [hl], fun i u hu => ?_⟩
      by_cases hi : i < l.length
      · rw [List.getElem?_append_left hi] at hu
        exact hr i u hu
      · rw [List.getElem?_append_right (by omega)] at hu
        have hi0 : i - l.length = 0 := by
          rcases hz : i - l.length with _ | q
          · rfl
          · rw [hz] at hu; simp at hu
        rw [hi0] at hu
        simp only [List.getElem?_cons_zero, Option.some.injEq] at hu
        subst hu
        have : i = k := by omega
        subst this
        exact ⟨cs', h1, h2, h3⟩
  obtain ⟨l, rfl, hr⟩ := hl2
  refine ⟨l, ⟨some a, cap, rfl, hl, rfl, Nat.le_trans hl (by simpa [maxLen] using hm), fun _ => ⟨a, rfl, fun j p hj => ?_⟩⟩, ?_, ?_⟩
  · obtain ⟨cs', h1, _, h3⟩ := hr j p hj
    obtain ⟨_, hlen, hcell⟩ := World.cells?_some h3
    refine ⟨cs', d.K_len h1, h1, fun i u hu => ?_⟩
    have hi : i < P.cellsOf e := by have := (List.getElem?_eq_some_iff.1 hu).1; omega
    have := hcell i hi
    rw [Go.Deep.add_add, hu, hc] at this
    exact this
  · intro y hy
    obtain ⟨i, hi⟩ := List.mem_iff_getElem?.1 hy
    obtain ⟨_, _, h2, _⟩ := hr i y hi
    exact h2
  · have := hw (((List.range l.length).map D).length + ((List.range (m - l.length)).map fun j => D (l.length + j)).length |> (· * P.bytesOf e)) (by
      simp [DataW.weights, ht])
    simp only [List.length_map, List.length_range] at this
    exact Nat.le_trans (Nat.mul_le_mul_right _ (Nat.le_add_right _ _)) this

theorem opensF_one {P : Program} {α : Type} {d : Kd α} {o : Nat} {f : Field} {Q : α → Prop} (hd : Opens P d f.type Q) (ho : f.offset = o) (hc : P.cellsOf f.type = d.sz) : OpensF P d o [f] Q := by
  intro H enc W base held n cs xs hl hx ht hw
  match xs, hx with
  | [x0], _ =>
    have h0 := ht 0 f rfl
    rw [ho, hc, List.take_of_length_le (by rw [List.length_drop]; omega)] at h0
    exact hd H enc W base held n _ x0 h0 (fun n hn => hw n (by simpa [DataW.weightsEach] using hn))

theorem opensF_cons {P : Program} {α β : Type} {d : Kd α} {d1 : Kd β} {o : Nat} {f : Field} {fs : List Field} {Q : α → Prop} {Q1 : β → Prop} (hd : Opens P d f.type Q) (ho : f.offset = o) (hc : P.cellsOf f.type = d.sz)
    (hr : OpensF P d1 (o + d.sz) fs Q1) : OpensF P (Kd.pair d d1) o (f :: fs) (fun x => Q x.1 ∧ Q1 x.2) := by
  intro H enc W base held n cs xs hl hx ht hw
  match xs, hx with
  | x0 :: xs, hx =>
    have h0 := ht 0 f rfl
    rw [ho, hc] at h0
    have hlp : cs.length = o + (d.sz + d1.sz) := hl
    obtain ⟨v, hv, hq⟩ := hd H enc W base held n _ x0 h0 (fun n hn => hw n (by
      simp only [List.map_cons, DataW.weightsEach, List.mem_append]; exact .inl hn))
    obtain ⟨v1, hv1, hq1⟩ := hr H enc W base held n cs xs (by omega) (by simpa using hx) (fun i g hg => by simpa using ht (i + 1) g (by simpa using hg)) (fun n hn => hw n (by
      simp only [List.map_cons, DataW.weightsEach, List.mem_append]; exact .inr hn))
    refine ⟨(v, v1), ⟨_, _, ?_, hv, hv1⟩, hq, hq1⟩
    rw [← List.drop_drop, List.take_append_drop]

theorem opens_struct {P : Program} {α : Type} {d : Kd α} {t : TypeId} {fs : Array Field} {Q : α → Prop} (ht : P.underlying t = some (.struct fs)) (hc : P.cellsOf t = d.sz) (hd : OpensF P d 0 fs.toList Q) : Opens P d t Q := by
  intro H enc W base held fuel cs x h hw
  obtain ⟨xs, n, _, rfl, hl, hlen, hf⟩ := DataW.trod_struct ht h
  have := hd H enc W base held n cs xs (by omega) (by simpa using hlen) (fun i f hi => hf i f (by simpa using hi)) (fun n hn => hw n (by simpa [DataW.weights, ht] using hn))
  simpa using this

theorem opens_iso {P : Program} {α β : Type} {d : Kd α} {t : TypeId} {Q : α → Prop} (f : β → α) (g : α → β) (hfg : ∀ a, f (g a) = a) (h : Opens P d t Q) : Opens P (Kd.iso d f) t (fun x => Q (f x)) := by
  intro H enc W base held fuel cs x hx hw
  obtain ⟨v, hv, hq⟩ := h H enc W base held fuel cs x hx hw
  refine ⟨g v, ?_, ?_⟩
  · show d.K W (f (g v)) cs
    rw [hfg]; exact hv
  · show Q (f (g v))
    rw [hfg]; exact hq

theorem opens_mono {P : Program} {α : Type} {d : Kd α} {t : TypeId} {Q Q' : α → Prop} (h : Opens P d t Q) (hq : ∀ a, Q a → Q' a) : Opens P d t Q' := by
  intro H enc W base held fuel cs x hx hw
  obtain ⟨v, hv, h1⟩ := h H enc W base held fuel cs x hx hw
  exact ⟨v, hv, hq v h1⟩

/-- An argument, by the weights of a law's data. -/
theorem opened {P : Program} {α : Type} {d : Kd α} {t : TypeId} {Q : α → Prop} (h : Opens P d t Q) {H : Type} {enc : TypeId × Value → H} {W : World} {base : Nat} {held : Bool} {v : Value} {x : DataW H} {p : List MemPlace}
    (ht : DataW.Trod enc P W base (fun _ => true) held t v x p) {ts : List TypeId} {ds : List (DataW H)} (hsz : (DataW.weightsEach P ts ds).all (· ≤ reachBytes) = true) (j : Nat) (hj : ts[j]? = some t) (hd : ds[j]? = some x) :
    ∃ a, d.K W a v.cells.toList ∧ Q a := by
  obtain ⟨fuel, hf⟩ := ht
  refine h H enc W base held fuel _ _ hf (fun n hn => ?_)
  have := List.all_eq_true.1 hsz n (DataW.weights_mem_each hj hd n hn)
  simpa using this
/-- A struct that came in by value. -/
theorem open_struct {P : Program} {α : Type} {d : Kd α} {t : TypeId} {Q : α → Prop} (O : Opens P d t Q) {fs : Array Field} (hs : P.underlying t = some (.struct fs)) {H : Type} {enc : TypeId × Value → H} {W : World} {base b0 : Nat} {held : Bool} {r : Reach} {v : Value}
    {x : DataW H} {p : List MemPlace} (hv : Value.okWide P W r b0 t v) (ht : DataW.Trod enc P W base (fun _ => true) held t v x p) {ts : List TypeId} {ds : List (DataW H)} (hsz : (DataW.weightsEach P ts ds).all (· ≤ reachBytes) = true)
    (j : Nat) (hj : ts[j]? = some t) (hd : ds[j]? = some x) : ∃ a cs, v = .agg (List.toArray cs) ∧ d.K W a cs ∧ Q a := by
  obtain ⟨a, hK, hQ⟩ := opened O ht hsz j hj hd
  obtain ⟨cs, rfl, _⟩ := okWide_struct hs hv
  exact ⟨a, cs.toList, by rw [Array.toArray_toList], hK, hQ⟩

/-- A slice that came in. -/
theorem open_row {P : Program} {α : Type} {d : Kd α} {t e : TypeId} {Q : α → Prop} (O : Opens P d e Q) (hs : P.underlying t = some (.slice e)) (hc : P.cellsOf e = d.sz) {H : Type} {enc : TypeId × Value → H} {W : World} {base b0 : Nat} {held : Bool} {r : Reach} {v : Value}
    {x : DataW H} {p : List MemPlace} (hv : Value.okWide P W r b0 t v) (ht : DataW.Trod enc P W base (fun _ => true) held t v x p) {ts : List TypeId} {ds : List (DataW H)} (hsz : (DataW.weightsEach P ts ds).all (· ≤ reachBytes) = true)
    (j : Nat) (hj : ts[j]? = some t) (hd : ds[j]? = some x) : ∃ A l c, v = .slice A l.length c ∧ l.length ≤ c ∧ d.C W A l.length l ∧ (∀ y ∈ l, Q y) ∧ l.length * P.bytesOf e ≤ reachBytes := by
  obtain ⟨l, hK, hQ, hb⟩ := opened (opens_slice (ek := 0) hs O hc) ht hsz j hj hd
  obtain ⟨A, len, cap, rfl⟩ := okWide_slice hs hv
  obtain ⟨A', c, hcs, hl, hC⟩ := hK
  have hcs' : [Value.slice A len cap] = [Value.slice A' l.length c] := hcs
  injection hcs' with h1 _
  injection h1 with h2 h3 h4
  subst h2; subst h3; subst h4
  exact ⟨A, l, cap, rfl, hl, hC, hQ, hb⟩
end Go.Proofs.Ytmjhgeinhhhodaa.Ext
end

section
/- Chapter 06: its arguments' kinds, opened. -/
namespace Go.Proofs.Ytmjhgeinhhhodaa.Ext
set_option linter.unusedVariables false
open Go.RowKit Go.Proofs.YtmjhgeinhhhodaaW.PrintWords Go.Proofs.Ytmjhgeinhhhodaa.P

def kTwo : Kd (Int × Int) := Kd.pair (Kd.int .i64) (Kd.int .i64)
theorem opens_schema : Opens Try.prog kTwo 27 (fun x => (Lit.int .i64 x.1).wf = true ∧ (Lit.int .i64 x.2).wf = true) := by
  refine opens_struct Try.underlying27 (by kernel_rfl) ?_
  show OpensF _ (Kd.pair _ _) 0 [_, _] _
  exact (opensF_cons (opens_int (k := .i64) (by kernel_rfl)) (by rfl) (by kernel_rfl) (opensF_one (opens_int (k := .i64) (by kernel_rfl)) (by rfl) (by kernel_rfl)))
theorem opens_agg : Opens Try.prog kTwo 23 (fun x => (Lit.int .i64 x.1).wf = true ∧ (Lit.int .i64 x.2).wf = true) := by
  refine opens_struct Try.underlying23 (by kernel_rfl) ?_
  show OpensF _ (Kd.pair _ _) 0 [_, _] _
  exact (opensF_cons (opens_int (k := .i64) (by kernel_rfl)) (by rfl) (by kernel_rfl) (opensF_one (opens_int (k := .i64) (by kernel_rfl)) (by rfl) (by kernel_rfl)))
theorem two_open {W : World} {x : Int × Int} {cs : List Value} (h : kTwo.K W x cs) : cs = [.int .i64 x.1, .int .i64 x.2] := by
  obtain ⟨_, _, rfl, rfl, rfl⟩ := h; rfl
theorem opens23 : Opens Try.prog k23 23 (fun x => (Lit.int .i64 x.f0).wf = true ∧ (Lit.int .i64 x.f1).wf = true) :=
  opens_iso (fun x : S23 => (x.f0, x.f1)) (fun p => ⟨p.1, p.2⟩) (fun _ => rfl) opens_agg
def kPart : Kd (Int × Int × List ByteArray) := Kd.pair (Kd.int .u64) (Kd.pair (Kd.int .i64) (Kd.slice 9 Kd.string))
theorem opens_part : Opens Try.prog kPart 33 (fun x => (Lit.int .u64 x.1).wf = true ∧ (Lit.int .i64 x.2.1).wf = true ∧ (∀ s ∈ x.2.2, s.size ≤ reachBytes) ∧ x.2.2.length * 16 ≤ reachBytes) := by
  refine opens_mono (Q := fun x => (Lit.int .u64 x.1).wf = true ∧ (Lit.int .i64 x.2.1).wf = true ∧ (∀ s ∈ x.2.2, s.size ≤ reachBytes) ∧ x.2.2.length * Try.prog.bytesOf 9 ≤ reachBytes) ?_ (fun x h => by rwa [show Try.prog.bytesOf 9 = 16 by kernel_rfl] at h)
  refine opens_struct Try.underlying33 (by kernel_rfl) ?_
  show OpensF _ (Kd.pair _ (Kd.pair _ _)) 0 [_, _, _] _
  exact (opensF_cons (opens_int (k := .u64) (by kernel_rfl)) (by rfl) (by kernel_rfl)
    (opensF_cons (opens_int (k := .i64) (by kernel_rfl)) (by rfl) (by kernel_rfl) (opensF_one (opens_slice (by kernel_rfl) (opens_string (t := 9) (by kernel_rfl)) (by kernel_rfl)) (by rfl) (by kernel_rfl))))
theorem part_open {W : World} {x : Int × Int × List ByteArray} {cs : List Value} (h : kPart.K W x cs) : ∃ A c, cs = [.int .u64 x.1, .int .i64 x.2.1, .slice A x.2.2.length c] ∧ x.2.2.length ≤ c ∧ Kd.string.C W A x.2.2.length x.2.2 := by
  obtain ⟨_, _, rfl, rfl, _, _, rfl, rfl, A, c, rfl, hl, hC⟩ := h
  exact ⟨A, c, rfl, hl, hC⟩
end Go.Proofs.Ytmjhgeinhhhodaa.Ext
end

section
/- Chapter 06: agg.Check and agg.May, and what the reference says of the same: plain Lean. -/
namespace Go.Proofs.Ytmjhgeinhhhodaa.Ext
set_option linter.unusedVariables false
set_option linter.unusedSimpArgs false
open Go.RowKit Go.Proofs.YtmjhgeinhhhodaaW.PrintWords Go.Proofs.Ytmjhgeinhhhodaa.P Go.Proofs.Ytmjhgeinhhhodaa.Txt

theorem fine_is (k : Nat) (d m c0 c1 : Int) : gristmillref06_Fine.f (k + 1) d m c0 c1 = some (!wrongB d m c0 c1) := by
  unfold gristmillref06_Fine.f wrongB
  simp only [gristmillref06_Fine.j0, ge_iff_le]
  by_cases h1 : c0 = 1
  · subst h1; simp
  by_cases h2 : c0 = 2
  · subst h2; by_cases hc : 0 ≤ c1 <;> by_cases hm : c1 < m <;> simp [hc, hm] <;> omega
  by_cases h3 : c0 = 3
  · subst h3; by_cases hc : 0 ≤ c1 <;> by_cases hm : c1 < m <;> simp [hc, hm] <;> omega
  by_cases h4 : c0 = 4
  · subst h4; by_cases hc : 0 ≤ c1 <;> by_cases hm : c1 < m <;> simp [hc, hm] <;> omega
  by_cases h5 : c0 = 5
  · subst h5; by_cases hc : 0 ≤ c1 <;> by_cases hm : c1 < d <;> simp [hc, hm] <;> omega
  · have : c0 < 1 ∨ 5 < c0 := by omega
    simp [h1, h2, h3, h4, h5, this]

theorem check_loop (d m : Int) (l : List S23) (hl : l.length < 4611686018427387904) : ∀ (n j : Nat), j + n = l.length → ∀ k, gristmillref06_Check.l0 (k + n + 2) l j d m = some (if anyWrong d m (l.drop j) then 1 else 0)
  | 0, j, hj, k => by
    have hd : l.drop j = [] := List.drop_eq_nil_of_le (by omega)
    simp only [gristmillref06_Check.l0, hd, anyWrong, List.any_nil]
    rw [if_neg (by omega)]
    rfl
  | n + 1, j, hj, k => by
    have hjl : j < l.length := by omega
    have e : wrap64 ((j : Int) + 1) = ((j + 1 : Nat) : Int) := by unfold wrap64; omega
    have hr : rd_T23 l (j : Int) = l[j] := by unfold rd_T23; simp [hjl]
    rw [show k + (n + 1) + 2 = (k + n + 2) + 1 by omega, gristmillref06_Check.l0]
    rw [if_pos (by omega), if_pos (by omega), e, hr, show k + n + 2 = (k + n + 1) + 1 by omega, fine_is]
    simp only [Option.bind_some]
    rw [show k + n + 1 + 1 = k + n + 2 by omega, check_loop d m l hl n (j + 1) (by omega) k, show anyWrong d m (l.drop j) = (wrongB d m l[j].f0 l[j].f1 || anyWrong d m (l.drop (j + 1))) by rw [List.drop_eq_getElem_cons hjl]; rfl]
    cases wrongB d m l[j].f0 l[j].f1 <;> simp

theorem check_is (d m : Int) (l : List S23) (hl : l.length < 4611686018427387904) (k : Nat) : gristmillref06_Check.f (k + l.length + 2) d m l = agg_Check.f d m l := by
  unfold gristmillref06_Check.f agg_Check.f
  by_cases h : 16 < l.length
  · rw [if_pos (by omega), if_pos h]
  · rw [if_neg (by omega), if_neg h, show ((0 : Int)) = ((0 : Nat) : Int) from rfl, check_loop d m l hl l.length 0 (by omega) k]
    rfl

/-- the text at a place -/
def tx (l : List ByteArray) (i : Nat) : T := (l.getD i ByteArray.empty).data.toList
theorem rd_tx (l : List ByteArray) (i : Nat) : (rdOf ByteArray.empty l (i : Int)).data.toList = tx l i := by unfold rdOf tx; rw [Int.toNat_natCast]
theorem rd_size (l : List ByteArray) (i : Nat) : (rdOf ByteArray.empty l (i : Int)).size = (tx l i).length := by rw [← rd_tx]; rfl
theorem less_rd (l : List ByteArray) (i j : Nat) : Op.bytesLess (rdOf ByteArray.empty l (i : Int)).toList (rdOf ByteArray.empty l (j : Int)).toList = decide (tx l i < tx l j) := by rw [less_is, rd_tx, rd_tx]

theorem less_f (a b : ByteArray) : cmp_Less_string.f a b = some (Op.bytesLess a.toList b.toList) := by
  unfold cmp_Less_string.f cmp_isNaN_string.f
  simp

def SortedTo (l : List ByteArray) (n : Nat) : Prop := ∀ i, 0 < i → i ≤ n → ¬ tx l i < tx l (i - 1)
noncomputable instance (l : List ByteArray) (n : Nat) : Decidable (SortedTo l n) := Classical.propDecidable _

theorem sorted_loop (l : List ByteArray) (hl : l.length < 4611686018427387904) : ∀ (j : Nat), j < l.length → ∀ k, slices_IsSorted_string_string.l0 (k + j + 1) l (j : Int) = some (decide (SortedTo l j))
  | 0, hj, k => by
    simp only [slices_IsSorted_string_string.l0]
    rw [if_neg (by omega)]
    refine congrArg some (decide_eq_true ?_).symm
    intro i h1 h2; omega
  | j + 1, hj, k => by
    have e : wrap64 (((j + 1 : Nat) : Int) - 1) = (j : Int) := by unfold wrap64; omega
    rw [show k + (j + 1) + 1 = (k + j + 1) + 1 by omega, slices_IsSorted_string_string.l0]
    rw [if_pos (by omega), if_pos (by omega), if_pos (by omega), e, if_pos (by omega), if_pos (by omega), less_f, less_rd]
    simp only [Option.bind_some, decide_eq_true_eq]
    rw [sorted_loop l hl j (by omega) k]
    by_cases h : tx l (j + 1) < tx l j
    · rw [if_pos h]
      refine congrArg some (decide_eq_false ?_).symm
      intro hs
      exact hs (j + 1) (by omega) (Nat.le_refl _) h
    · rw [if_neg h]
      congr 1
      refine decide_eq_decide.2 ⟨fun hs i h1 h2 => ?_, fun hs i h1 h2 => hs i h1 (by omega)⟩
      by_cases hi : i = j + 1
      · subst hi; exact h
      · exact hs i h1 (by omega)

theorem sorted_is (l : List ByteArray) (hl : l.length < 4611686018427387904) (k : Nat) : slices_IsSorted_string_string.f (k + l.length + 1) l = some (decide (SortedTo l (l.length - 1))) := by
  unfold slices_IsSorted_string_string.f
  by_cases h : l.length = 0
  · rw [h]
    have e : wrap64 (((0 : Nat) : Int) - 1) = -1 := by unfold wrap64; omega
    rw [e, show k + 0 + 1 = k + 1 by omega]
    simp only [slices_IsSorted_string_string.l0]
    rw [if_neg (by omega)]
    refine congrArg some (decide_eq_true ?_).symm
    intro i h1 h2; omega
  · have e : wrap64 ((l.length : Int) - 1) = ((l.length - 1 : Nat) : Int) := by unfold wrap64; omega
    rw [e, show k + l.length + 1 = (k + 1) + (l.length - 1) + 1 by omega]
    exact sorted_loop l hl _ (by omega) _

theorem compact_all (l : List ByteArray) : (compactB l).length = l.length ↔ ∀ i, 0 < i → i < l.length → tx l i ≠ tx l (i - 1) := by
  unfold compactB
  rw [strs_length]
  unfold Go.Lib.compact Go.Lib.compactUpTo
  rw [List.length_map, txts_length]
  have e : l.length = (List.range l.length).length := by simp
  have hx : ∀ i, i < l.length → (txts l).toArray[i]! = tx l i := by
    intro i hi
    rw [getElem!_pos _ i (by simpa [txts_length] using hi)]
    unfold txts tx
    simp [hi]
  constructor
  · intro h i h0 hi he
    have h2 : (List.filter (Go.Lib.keeps (txts l).toArray) (List.range l.length)).length = (List.range l.length).length := by rw [h, List.length_range]
    have := List.length_filter_eq_length_iff.1 h2 i (by simpa using hi)
    have := of_decide_eq_true this
    rw [hx i hi, hx (i - 1) (by omega)] at this
    rcases this with h1 | h1
    · omega
    · exact h1 he
  · intro h
    rw [show (List.filter (Go.Lib.keeps (txts l).toArray) (List.range l.length)).length = (List.range l.length).length from ?_, List.length_range]
    refine List.length_filter_eq_length_iff.2 (fun i hi => ?_)
    have hi : i < l.length := by simpa using hi
    refine decide_eq_true ?_
    by_cases h0 : i = 0
    · exact .inl h0
    · refine .inr ?_
      rw [hx i hi, hx (i - 1) (by omega)]
      exact h i (by omega) hi

/-- what the reference asks of a text at its place -/
def Good (l : List ByteArray) (i : Nat) : Prop := (tx l i).length ≤ 64 ∧ (0 < i → tx l (i - 1) < tx l i)
def AllGood (l : List ByteArray) (j : Nat) : Prop := ∀ i, j ≤ i → i < l.length → Good l i
noncomputable instance (l : List ByteArray) (n : Nat) : Decidable (AllGood l n) := Classical.propDecidable _
/-- the reference's end -/
def mayEnd (N V : Int) (l : List ByteArray) : Bool := if N = 0 then (if V = 0 then (l.length : Int) == 0 else false) else if V = 0 then (if (l.length : Int) > 0 then decide (IntKind.u64.wrap (l.length : Int) ≤ N) else false) else false

theorem may_loop (N V : Int) (l : List ByteArray) (hl : l.length < 4611686018427387904) : ∀ (n j : Nat), j + n = l.length → ∀ k, gristmillref06_May.l0 (k + n + 1) (j : Int) N V l = some (decide (AllGood l j) && mayEnd N V l)
  | 0, j, hj, k => by
    have : AllGood l j := fun i h1 h2 => by omega
    rw [decide_eq_true this, Bool.true_and]
    simp only [gristmillref06_May.l0]
    rw [if_neg (by omega)]
    unfold mayEnd
    split
    · split <;> rfl
    · split
      · split <;> rfl
      · rfl
  | n + 1, j, hj, k => by
    have e : wrap64 ((j : Int) + 1) = ((j + 1 : Nat) : Int) := by unfold wrap64; omega
    have ih := may_loop N V l hl n (j + 1) (by omega) k
    rw [show k + (n + 1) + 1 = (k + n + 1) + 1 by omega, gristmillref06_May.l0]
    rw [if_pos (by omega), if_pos (by omega), rd_size, e, ih]
    by_cases h64 : (tx l j).length ≤ 64
    · rw [if_neg (by omega)]
      by_cases h0 : j = 0
      · subst h0
        rw [if_neg (by omega)]
        congr 2
        refine decide_eq_decide.2 ⟨fun h i h1 h2 => ?_, fun h i h1 h2 => h i (by omega) h2⟩
        by_cases hi : i = 0
        · subst hi; exact ⟨h64, fun h => by omega⟩
        · exact h i (by omega) h2
      · have e1 : wrap64 ((j : Int) - 1) = ((j - 1 : Nat) : Int) := by unfold wrap64; omega
        rw [if_pos (by omega), e1, if_pos (by omega), if_pos (by omega), less_rd]
        by_cases hlt : tx l (j - 1) < tx l j
        · rw [if_pos (decide_eq_true hlt)]
          congr 2
          refine decide_eq_decide.2 ⟨fun h i h1 h2 => ?_, fun h i h1 h2 => h i (by omega) h2⟩
          by_cases hi : i = j
          · subst hi; exact ⟨h64, fun _ => hlt⟩
          · exact h i (by omega) h2
        · rw [if_neg (by simpa using hlt)]
          rw [decide_eq_false (fun h => hlt ((h j (Nat.le_refl _) (by omega)).2 (by omega)))]
          rfl
    · rw [if_pos (by omega)]
      rw [decide_eq_false (fun h => h64 (h j (Nat.le_refl _) (by omega)).1)]
      rfl

theorem tooLong_iff (l : List ByteArray) : tooLong l = false ↔ ∀ i, i < l.length → (tx l i).length ≤ 64 := by
  unfold tooLong
  rw [List.any_eq_false]
  constructor
  · intro h i hi
    have := h l[i] (List.getElem_mem hi)
    simp only [decide_eq_true_eq] at this
    unfold tx
    rw [List.getD_eq_getElem?_getD, List.getElem?_eq_getElem hi]
    show l[i].size ≤ 64
    omega
  · intro h x hx
    obtain ⟨i, hi, rfl⟩ := List.getElem_of_mem hx
    have := h i hi
    unfold tx at this
    rw [List.getD_eq_getElem?_getD, List.getElem?_eq_getElem hi] at this
    have h2 : l[i].size ≤ 64 := this
    simp only [decide_eq_true_eq]
    omega

theorem allGood_iff (l : List ByteArray) : AllGood l 0 ↔ SortedTo l (l.length - 1) ∧ (compactB l).length = l.length ∧ tooLong l = false := by
  rw [compact_all, tooLong_iff]
  constructor
  · intro h
    refine ⟨fun i h0 hi hlt => ?_, fun i h0 hi he => ?_, fun i hi => (h i (by omega) hi).1⟩
    · exact lt_irrefl _ (lt_trans hlt ((h i (by omega) (by omega)).2 h0))
    · have := (h i (by omega) hi).2 h0
      rw [he] at this
      exact lt_irrefl _ this
  · rintro ⟨h1, h2, h3⟩ i _ hi
    refine ⟨h3 i hi, fun h0 => ?_⟩
    rcases lt_or (tx l (i - 1)) (tx l i) with h | h | h
    · exact h
    · exact absurd h.symm (h2 i h0 hi)
    · exact absurd h (h1 i h0 (by omega))

theorem may_is (d m c0 c1 N V : Int) (l : List ByteArray) (hl : l.length ≤ 8796093022208) (hN : 0 ≤ N) (k : Nat) :
    ∃ b, agg_May.f (k + l.length + 1) d m c0 c1 N V l = some b ∧ gristmillref06_May.f (k + l.length + 1) d m c0 c1 N V l = some b := by
  have hc : agg_Check.f d m [(⟨c0, c1⟩ : S23)] = some (if wrongB d m c0 c1 then 1 else 0) := by
    unfold agg_Check.f
    rw [if_neg (by simp)]
    simp [anyWrong]
  unfold agg_May.f gristmillref06_May.f
  rw [hc, show k + l.length + 1 = (k + l.length) + 1 from rfl, fine_is, show (k + l.length) + 1 = k + l.length + 1 from rfl]
  simp only [Option.bind_some]
  cases hw : wrongB d m c0 c1
  · simp only [Bool.not_false, if_true, Bool.false_eq_true, if_false]
    by_cases h5 : c0 = 5
    · have hm : gristmillref06_May.l0 (k + l.length + 1) 0 N V l = some (decide (AllGood l 0) && mayEnd N V l) := may_loop N V l (by omega) l.length 0 (by omega) k
      rw [if_pos h5, if_pos h5, sorted_is l (by omega), hm]
      simp only [Option.bind_some, decide_eq_true_eq, slices_Clone_string_string.f, slices_Compact_string_string.f, slices_ContainsFunc_string_string_at_agg_May_1.f, if_pos hl]
      refine ⟨_, ?_, rfl⟩
      have hg := allGood_iff l
      have hu : IntKind.u64.wrap (l.length : Int) = (l.length : Int) := by
        show (l.length : Int) % 18446744073709551616 = _
        omega
      unfold mayEnd
      rw [hu]
      by_cases h1 : SortedTo l (l.length - 1)
      · rw [if_pos h1]
        by_cases hV : V = 0
        · rw [if_pos (by simpa using hV)]
          by_cases h2 : (compactB l).length = l.length
          · rw [if_pos (by omega)]
            cases h3 : tooLong l
            · have : AllGood l 0 := hg.2 ⟨h1, h2, h3⟩
              rw [decide_eq_true this]
              by_cases hz : N = 0
              · subst hz
                by_cases hlz : l.length = 0
                · simp [hlz, hV]
                · have : 0 < l.length := by omega
                  have hne : l ≠ [] := fun h => by rw [h] at hlz; exact hlz rfl
                  simp [hne, hV]
              · by_cases hlz : l.length = 0
                · have he : l = [] := List.length_eq_zero_iff.1 hlz
                  have hNp : 0 < N := by omega
                  subst he
                  simp [hV, hz, hN, hNp]
                · have : 0 < l.length := by omega
                  have : 0 < N := by omega
                  have hne : l ≠ [] := fun h => by rw [h] at hlz; exact hlz rfl
                  by_cases hle : (l.length : Int) ≤ N
                  · simp [hne, hV, hz, hle, this]
                  · simp [hne, hV, hz, hle]
            · rw [decide_eq_false (p := AllGood l 0) (fun h => by have := (hg.1 h).2.2; rw [h3] at this; cases this)]
              simp
          · rw [if_neg (by omega), decide_eq_false (p := AllGood l 0) (fun h => h2 (hg.1 h).2.1)]
            simp
        · rw [if_neg (by simpa using hV)]
          have : (if N = 0 then (if V = 0 then (l.length : Int) == 0 else false) else if V = 0 then (if (l.length : Int) > 0 then decide ((l.length : Int) ≤ N) else false) else false) = false := by
            rw [if_neg hV, if_neg hV]
            split <;> rfl
          rw [this, Bool.and_false]
      · rw [if_neg h1, decide_eq_false (p := AllGood l 0) (fun h => h1 (hg.1 h).1)]
        simp
    · rw [if_neg h5, if_neg h5]
      by_cases hlz : (l.length : Int) = 0
      · rw [if_pos hlz, if_pos hlz]
        by_cases hV : V = 0 <;> by_cases hz : N = 0 <;> by_cases h1 : c0 = 1 <;> simp [hV, hz, h1]
      · rw [if_neg hlz, if_neg hlz]
        exact ⟨_, rfl, rfl⟩
  · simp
end Go.Proofs.Ytmjhgeinhhhodaa.Ext
end

section
/- The law AggChecks. -/
namespace Go.Proofs.Ytmjhgeinhhhodaa.aggChecks
set_option linter.unusedVariables false
set_option linter.unusedSimpArgs false
open Go.RowKit Go.Proofs.YtmjhgeinhhhodaaW.PrintWords Go.Proofs.Ytmjhgeinhhhodaa.Lib
open Go.ChangeShapes Go.WideShapes Go.ChangeAt
open Go.ChangeMaps (open_string shut_string)
theorem own : ownKnob Try.prog.godebug = none := by kernel_rfl
theorem laidOut : laidOutB Try.prog = true := by kernel_rfl
open Go.Proofs.Ytmjhgeinhhhodaa.P Go.Proofs.Ytmjhgeinhhhodaa.Ext
theorem bulk16 {n : Nat} (h : n * 16 ≤ reachBytes) : n ≤ 8796093022208 := by
  have := reachBytes_lt
  have h3 : (2 : Nat) ^ 47 = 140737488355328 := by decide
  omega
theorem wfU {n : Int} (h : (Lit.int .u64 n).wf = true) : 0 ≤ n := by
  simp only [Lit.wf, Bool.and_eq_true, decide_eq_true_eq] at h
  exact h.1
theorem law_true (d m : Int) (l : List S23) (c0 c1 N V : Int) (ts : List ByteArray) (hl : l.length ≤ 8796093022208) (ht : ts.length ≤ 8796093022208) (hN : 0 ≤ N) :
    gristmilllaw06_AggChecks.f (l.length + ts.length + 3) d m l c0 c1 N V ts = some true := by
  unfold gristmilllaw06_AggChecks.f
  obtain ⟨b, h1, h2⟩ := may_is d m c0 c1 N V ts ht hN (l.length + 2)
  rw [show gristmilllaw06_awake.f = some true from rfl, show l.length + ts.length + 3 = (ts.length + 1) + l.length + 2 by omega, check_is d m l (by omega) _, show (ts.length + 1) + l.length + 2 = (l.length + 2) + ts.length + 1 by omega, h1, h2]
  unfold agg_Check.f
  simp
set_option maxRecDepth 100000 in
theorem lifted (os : Os) (started : os.Started) (H : Type) (enc : TypeId × Value → H) :
    ReturnsInHanded {} Try.checked os 8 .any (Rows.aggChecksSpec.pre6 enc Try.prog Try.f8 Rows.aggChecksRow.domain false) (Rows.aggChecksSpec.post enc Try.prog Try.f8 false true false false) := by
  refine returnsInHanded_of_change_sized (C := Try.checked) own started (by kernel_rfl) Try.func8
    (ChangeSpec.witness6 (enc := enc) (C := Try.checked) false ⟨#[], #[.agg #[.int .i64 0, .int .i64 0], .slice none 0 0, .agg #[.int .i64 0, .int .i64 0], .agg #[.int .u64 0, .int .i64 0, .slice none 0 0]], []⟩ 8 (by kernel_rfl) (by kernel_rfl) (by kernel_rfl) (by kernel_rfl)) ?_
  intro W base args ds gs before hval0 hW hcnd hsz _
  have hval : ∀ (j : Nat) t v, Try.f8.params[j]? = some t → args[j]? = some v → Value.okWide Try.prog W .any base t v := hval0
  have hW' := hW
  obtain ⟨p, q, hA0, hV, rfl, hfz, hnd⟩ := hW
  have hA : DataW.TrodAll enc Try.prog W 0 (fun _ => true) true Try.f8.params.toList args.toList ds p := hA0
  rw [Try.params8] at hA hval
  obtain ⟨v0, vs0, d0, ds0, p0, q0, hargs, rfl, rfl, h0, r0⟩ := trodAll_cons hA
  obtain ⟨v1, vs1, d1, ds1, p1, q1, rfl, rfl, rfl, h1, r1⟩ := trodAll_cons r0
  obtain ⟨v2, vs2, d2, ds2, p2, q2, rfl, rfl, rfl, h2, r2⟩ := trodAll_cons r1
  obtain ⟨v3, vs3, d3, ds3, p3, q3, rfl, rfl, rfl, h3, r3⟩ := trodAll_cons r2
  obtain ⟨rfl, rfl, rfl⟩ := trodAll_nil r3
  obtain rfl : args = #[v0, v1, v2, v3] := by cases args; simp_all
  obtain ⟨rfl, rfl⟩ := trodVars_none hV
  have k0 := h0
  have lt0 : ∀ x ∈ p0, x.block < W.heap.size := by obtain ⟨m, hm⟩ := k0; exact DataW.trod_lt m _ _ _ hm
  obtain ⟨a0, cs0, rfl, hK0, hQ0⟩ := open_struct opens_schema Try.underlying27 (hval 0 _ v0 rfl rfl) h0 hsz 0 rfl rfl
  obtain rfl := two_open hK0
  have k1 := h1
  have lt1 : ∀ x ∈ p1, x.block < W.heap.size := by obtain ⟨m, hm⟩ := k1; exact DataW.trod_lt m _ _ _ hm
  obtain ⟨A1, l1, c1, rfl, hl1, hC1, hQ1, hb1⟩ := open_row opens23 Try.underlying50 (by kernel_rfl) (hval 1 _ v1 rfl rfl) h1 hsz 1 rfl rfl
  have k2 := h2
  have lt2 : ∀ x ∈ p2, x.block < W.heap.size := by obtain ⟨m, hm⟩ := k2; exact DataW.trod_lt m _ _ _ hm
  obtain ⟨a2, cs2, rfl, hK2, hQ2⟩ := open_struct opens_agg Try.underlying23 (hval 2 _ v2 rfl rfl) h2 hsz 2 rfl rfl
  obtain rfl := two_open hK2
  have k3 := h3
  have lt3 : ∀ x ∈ p3, x.block < W.heap.size := by obtain ⟨m, hm⟩ := k3; exact DataW.trod_lt m _ _ _ hm
  obtain ⟨a3, cs3, rfl, hK3, hQ3⟩ := open_struct opens_part Try.underlying33 (hval 3 _ v3 rfl rfl) h3 hsz 3 rfl rfl
  obtain ⟨A3, c3, rfl, hl3, hC3⟩ := part_open hK3
  clear hA0 hval0
  refine (gristmilllaw06_AggChecks.calls (l1.length + a3.2.2.length + 3) a0.1 a0.2 A1 c1 l1 a2.1 a2.2 a3.1 a3.2.1 A3 c3 a3.2.2 true W hC1 hl1 hC3 hl3 (law_true _ _ _ _ _ _ _ _ (bulk16 (by rwa [show Try.prog.bytesOf 23 = 16 by kernel_rfl] at hb1)) (bulk16 hQ3.2.2.2) (wfU hQ3.1))).mono fun e W' ⟨he, bel⟩ => ?_
  subst he
  exact ⟨_, rfl, _, _, _, [], _, [], hW', trodAll_mk1 (shut_bool Try.underlying4 _), (trodAll_cons_mk (Below.trod laidOut (by kernel_rfl) (of_decide_eq_true (by kernel_rfl)) k0 bel lt0) (trodAll_cons_mk (Below.trod laidOut (by kernel_rfl) (of_decide_eq_true (by kernel_rfl)) k1 bel lt1) (trodAll_cons_mk (Below.trod laidOut (by kernel_rfl) (of_decide_eq_true (by kernel_rfl)) k2 bel lt2) (trodAll_cons_mk (Below.trod laidOut (by kernel_rfl) (of_decide_eq_true (by kernel_rfl)) k3 bel lt3) trodAll_mk0)))), rfl, bel.frame _, fun h => by cases h⟩

/-- The law. -/
theorem proved : Rows.AggChecksSaid :=
  OpenClaim.holds_of_wide 8 Try.f8 rfl rfl rfl rfl rfl rfl rfl ⟨rfl, rfl, rfl, rfl, rfl⟩ rfl rfl rfl rfl rfl (by kernel_rfl) Try.func8 (by kernel_rfl)
    (of_decide_eq_true (by kernel_rfl)) (by unfold Func.isWrapper; first | (rw [if_pos (by decide +kernel)]; kernel_rfl) | (rw [if_neg (by decide +kernel)]; exact ⟨rfl, rfl⟩))
    (fun os started H enc _ => lifted os started H enc)
end Go.Proofs.Ytmjhgeinhhhodaa.aggChecks
end
