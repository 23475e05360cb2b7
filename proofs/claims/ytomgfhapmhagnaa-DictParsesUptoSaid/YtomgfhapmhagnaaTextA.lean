/- Rows of texts: slices.Clone, Sort, Compact, ContainsFunc; sort.Search; strings.HasPrefix: what they answer. -/
import Derived.Test.YtomgfhapmhagnaaText
import Derived.Test.YtomgfhapmhagnaaShelf
import Derived.Sort.OwnSorted
import Derived.WalkLawsBesides
import Derived.WalkSpells
import Derived.Outline
namespace Go.Proofs.Ytomgfhapmhagnaa.Txt
set_option linter.unusedVariables false
set_option linter.unusedSimpArgs false
open Go.RowKit Go.Proofs.YtomgfhapmhagnaaW.PrintWords Go.Proofs.YtomgfhapmhagnaaW.PrintLast Go.Proofs.YtomgfhapmhagnaaW.PrintMore Go.Proofs.Ytomgfhapmhagnaa.Lib

theorem infos : (Try.prog.info? 9).map (fun i => (i.zero, i.size, i.bytes)) = some (some (.string .empty), 1, 16) := by kernel_rfl
set_option maxRecDepth 100000 in
set_option maxHeartbeats 400000 in
theorem clone_texts (xs : List T) (len : Nat) (A : Option Addr) (c : Nat) (w : World) (hr : Kd.C text w A len xs) (hl : xs.length * 16 ≤ 140737488355328) :
    Calls Try.prog 24 #[.slice A len c] w fun e w' => ∃ v, e = .returned v ∧ Kd.R text 9 w' w.heap.size (fun _ => True) v xs ∧ Below w.heap.size w w' := by
  obtain rfl := hr.1
  have HR := Aside0.mk hr
  have HB := Aside0.mk (Below.refl w.heap.size w)
  clear hr
  have heq := fun u : World => Lib.run_eql_slice_nil (P := Try.prog) u 22 9 A xs.length c 0 0 Try.underlying22
  rcases A with _ | ad
  · have hx : xs = [] := by
      rcases xs with _ | ⟨x, l⟩
      · rfl
      · obtain ⟨ad, h, _⟩ := HR.out.2.2 (by simp)
        cases h
    subst hx
    simp only [List.length_nil, Option.isNone_none] at heq
    go_enter Try.func24, Try.ntmps24
    go_wp2
    go_ret
    exact ⟨_, rfl, Kd.R_nil _ _ _ _ _, HB.out⟩
  · go_enter Try.func24, Try.ntmps24
    go_wp2_with (first
      | ((with_reducible refine gate_dst (N := 5) rfl ?_); refine Kd.R_lit text (w0 := w) w.heap.size 9 ?hg (N := 5) ?hd (xs := ([] : List T)) (inner := []) (ok := fun _ => True) (okp := fun _ => True) ?hr (Reps.none _ _) (fun _ hk => hk) trivial HB.out (Nat.le_refl _) (by simp) ?_; (case hd => rfl); (case hg => rfl); (case hr => first | (go_simp; done) | (go_simp; rfl)); intro v1 w1 ho1 hb1 hg1 ha1; have HO := Aside0.mk ho1; have HB1 := Aside0.mk hb1; have HR1 := Aside0.mk (Kd.C_below HR.out hb1); clear ho1 hb1 hg1 ha1)
      | ((with_reducible refine gate_builtin (b := .append) (xs := #[.tmp 5, .tmp 6]) rfl ?_); at_builtin; refine Kd.R_append_rows text (w0 := w) w.heap.size rfl (.tmp 5) (.tmp 6) 22 9 (.string .empty) 16 rfl Try.underlying22 infos rfl (by decide) (by omega) v1 [] xs (some ad) xs.length c (fun _ => True) (fun _ => False) rfl rfl HO.out HR1.out ?aK (fun _ h => h.elim) (fun _ _ => trivial) HB1.out HB1.out.size ?aL ?_; (case aK => exact fun _ _ h => h); (case aL => simp only [List.length_nil, Nat.zero_add]; exact hl); intro v2 w2 ho2 hb2 hg2 ha2; have HO2 := Aside0.mk ho2; have HB2 := Aside0.mk hb2; clear ho2 hb2 hg2 ha2))
    go_ret
    exact ⟨_, rfl, HO2.out, HB2.out⟩


theorem R_at_text {e : TypeId} {w : World} {base : Nat} {ok : Nat → Prop} {g n c : Nat} {xs : List T} (h : text.R e w base ok (.slice (some ⟨g, 0, none⟩) n c) xs) (hn : 0 < n) :
    ∃ cur : Array Value, base ≤ g ∧ n = xs.length ∧ w.heap[g]? = some (.cells cur e (0, 0)) ∧ xs.length ≤ c ∧ c ≤ maxLen ∧ cur.size = c * 1 ∧ cur.toList.take xs.length = xs.map encStr := by
  have hl := (R_len h).1
  subst hl
  have ho := Kd.own_of_R h
  rcases ho.2 with ⟨e1, _⟩ | ⟨g', cap, cur, e1, hg, hb, h1, h2, h3, h4⟩
  · cases e1
  · injection e1 with e1 e2 e3
    injection e1 with e1
    injection e1 with e1
    subst e1
    subst e3
    exact ⟨cur, hg, rfl, hb, h1, h2, h3, by rw [Nat.mul_one] at h4; exact h4⟩
set_option maxRecDepth 100000 in
set_option maxHeartbeats 400000 in
theorem sort_texts (ts : List T) (w : World) (base : Nat) (ok : Nat → Prop) (A : Option Addr) (n c : Nat) (h : text.R 9 w base ok (.slice A n c) ts) (hl : ts.length < 4611686018427387904) :
    Calls Try.prog 25 #[.slice A n c] w fun e w' => e = .returned (.tuple #[]) ∧ text.R 9 w' base ok (.slice A n c) (ts.mergeSort fun x y => decide (x ≤ y)) ∧ w.grownBy w' (Value.slice A n c).ownBlock := by
  by_cases hn : n = 0
  · subst hn
    have e : ts = [] := List.eq_nil_of_length_eq_zero (R_len h).1.symm
    subst e
    refine (Try.slices_Sort_string_none A c w).mono fun e w' he => ?_
    obtain ⟨he, rfl⟩ := he
    exact ⟨he, by rw [List.mergeSort_nil]; exact h, grown_of_below (Below.refl _ _) _⟩
  · obtain ⟨g, rfl, hg, -⟩ := R_plain h (by omega)
    obtain ⟨cur, hbase, hnl, hb, h1, h2, h3, h4⟩ := R_at_text h (by omega)
    subst hnl
    refine (Try.slices_Sort_string g 0 c ts w (holds_of_block hb h4) (Array.getElem?_eq_some_iff.1 hb).1 hl).mono fun e w' he => ?_
    obtain ⟨he, k, os, rfl⟩ := he
    refine ⟨he, ?_, grownBy_sorted _⟩
    have hm : (ts.mergeSort fun x y => decide (x ≤ y)).length = ts.length := by simp
    have ho := ownsRow_sorted (n := k) (os := os) (ts := ts.mergeSort fun x y => decide (x ≤ y)) hm hbase hb h1 h2 h3
    exact Kd.R_of_own (by rw [hm]; exact ho) h.1
set_option maxRecDepth 100000 in
set_option maxHeartbeats 400000 in
theorem compact_texts (ts : List T) (w : World) (base : Nat) (ok : Nat → Prop) (A : Option Addr) (n c : Nat) (h : text.R 9 w base ok (.slice A n c) ts) (hl : ts.length < 4611686018427387904) :
    Calls Try.prog 26 #[.slice A n c] w fun e w' => e = .returned (.slice A (Go.Lib.compact ts).length c) ∧ text.R 9 w' base ok (.slice A (Go.Lib.compact ts).length c) (Go.Lib.compact ts) ∧ w.grownBy w' (Value.slice A n c).ownBlock := by
  by_cases hn : n = 0
  · subst hn
    have e : ts = [] := List.eq_nil_of_length_eq_zero (R_len h).1.symm
    subst e
    refine (Try.slices_Compact_string_empty A c w).mono fun e w' he => ?_
    obtain ⟨he, rfl⟩ := he
    exact ⟨he, h, grown_of_below (Below.refl _ _) _⟩
  · obtain ⟨g, rfl, hg, -⟩ := R_plain h (by omega)
    obtain ⟨cur, hbase, hnl, hb, h1, h2, h3, h4⟩ := R_at_text h (by omega)
    subst hnl
    refine (Try.slices_Compact_string g 0 c ts w (holds_of_block hb h4) (by omega) h1).mono fun e w' he => ?_
    obtain ⟨he, k, rfl⟩ := he
    have hle := Go.Lib.compact_length_le ts
    have hm : (Go.Lib.compact ts ++ List.replicate (ts.length - (Go.Lib.compact ts).length) ([] : T)).length = ts.length := by rw [List.length_append, List.length_replicate]; omega
    have ho := ownsRow_sorted (n := k) (os := #[]) (ts := Go.Lib.compact ts ++ List.replicate (ts.length - (Go.Lib.compact ts).length) ([] : T)) hm hbase hb h1 h2 h3
    rw [Sort.grow_empty] at ho
    have hR : text.R 9 _ base ok (.slice (some ⟨g, 0, none⟩) ts.length c) _ := Kd.R_of_own (by rw [hm]; exact ho) h.1
    have hR2 := Kd.R_take hR (m := (Go.Lib.compact ts).length) (by rw [hm]; exact hle)
    rw [List.take_left] at hR2
    refine ⟨he, hR2, ?_⟩
    have hg2 := grownBy_sorted (w := w) (g := g) (n := k) (os := #[]) (Go.Lib.compact ts ++ List.replicate (ts.length - (Go.Lib.compact ts).length) ([] : T)).toArray
    rw [Sort.grow_empty] at hg2
    exact hg2
end Go.Proofs.Ytomgfhapmhagnaa.Txt
