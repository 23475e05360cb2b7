/- Texts of this repo, joined, without what this claim does not use: ExtAwake, P14. -/
import Derived.Test.YtmjhgeinhhhodaaDAggTurns1
import Derived.Test.YtmjhgeinhhhodaaDAggTurns2
import Derived.Test.YtmjhgeinhhhodaaDAggTurns3
section
namespace Go.Proofs.Ytmjhgeinhhhodaa.P
set_option linter.unusedVariables false
set_option linter.unusedSimpArgs false
open Go.RowKit Go.Proofs.YtmjhgeinhhhodaaW.PrintWords Go.Proofs.YtmjhgeinhhhodaaW.PrintLast Go.Proofs.YtmjhgeinhhhodaaW.PrintMore Go.Proofs.Ytmjhgeinhhhodaa.Lib
open Go.Proofs.Ytmjhgeinhhhodaa
theorem below_of_grown {W w1 : World} (hg : W.grownBy w1 none) : Below W.heap.size W w1 := ⟨hg.os, hg.tape, hg.output, hg.size, fun i hi => hg.block i hi (by simp)⟩
section
variable {P : Program} {ops : Array Oper} {o : Oper} {a : Act} {Q : Exit → Act → World → Prop} {Kc : Act → World → Prop} {α : Type}
theorem lit1_step (d : Kd α) (e : Nat) {W : World} (hw : Region.wanted o (yielded ops a.tmps) = true) {N : Tmp} (hd : o.dst = some N) {x : α} {v : Value} (hrun : (execOp a.eval o).run P W = .ok (.value (.slice (some ⟨W.heap.size, 0, none⟩) 1 1)) (W.alloc (.cells [v].toArray e)))
    (hrep : Reps (d.M W W.heap.size (fun _ => True)) d.sz [x] [v])
    (h : ∀ A c w1, Kd.C d w1 A 1 [x] → 1 ≤ c → Below W.heap.size W w1 → Kc (a.put o.dst (.slice A 1 c)) w1) : if Region.wanted o (yielded ops a.tmps) = true then Oper.wp P o a W Kc Q else Kc (a.put o.dst undef) W := by
  refine Kd.R_lit_step d (w0 := W) W.heap.size e hw hd (xs := [x]) (inner := [v]) (ok := fun _ => True) (okp := fun _ => True) hrun hrep (fun _ hk => hk) trivial (Below.refl _ _) (Nat.le_refl _) (by simp) ?_
  intro v1 w1 ho hb hg ha
  obtain ⟨A, c, rfl, hc, hC⟩ := Kd.R_reads ho
  exact h A c w1 hC hc (below_of_grown hg)
theorem lit1_event {rest : List Oper} (d : Kd α) (e : Nat) {W : World} (hgd : o.guard = none) {N : Tmp} (hd : o.dst = some N) {x : α} {v : Value} (hrun : (execOp a.eval o).run P W = .ok (.value (.slice (some ⟨W.heap.size, 0, none⟩) 1 1)) (W.alloc (.cells [v].toArray e)))
    (hrep : Reps (d.M W W.heap.size (fun _ => True)) d.sz [x] [v])
    (h : ∀ A c w1, Kd.C d w1 A 1 [x] → 1 ≤ c → Below W.heap.size W w1 → wpList P ops Q rest (a.put o.dst (.slice A 1 c)) w1) : wpList P ops Q (o :: rest) a W := by
  refine Kd.R_lit d (w0 := W) W.heap.size e hgd hd (xs := [x]) (inner := [v]) (ok := fun _ => True) (okp := fun _ => True) hrun hrep (fun _ hk => hk) trivial (Below.refl _ _) (Nat.le_refl _) (by simp) ?_
  intro v1 w1 ho hb hg ha
  obtain ⟨A, c, rfl, hc, hC⟩ := Kd.R_reads ho
  exact h A c w1 hC hc (below_of_grown hg)
end
theorem built_of_rises {l : List Txt.T} (h : l.Pairwise (· < ·)) : Txt.built l = l := Txt.rises_same (Txt.built_rises l) h (fun y => Txt.built_mem l y)
theorem builtB_nil : builtB [] = [] := by unfold builtB txts strs; rw [List.map_nil, built_of_rises List.Pairwise.nil]; rfl
theorem builtB_one (s : ByteArray) : builtB [s] = [s] := by
  unfold builtB
  rw [built_of_rises (by unfold txts; exact List.pairwise_singleton _ _)]
  exact strs_txts [s]
def strA : ByteArray := ⟨#[97]⟩
def strB : ByteArray := ⟨#[98]⟩
theorem builtB_ba : builtB [strB, strA] = [strA, strB] := by
  unfold builtB
  have h : Txt.built (txts [strB, strA]) = txts [strA, strB] := Txt.rises_same (Txt.built_rises _) (by unfold txts; simp only [List.map_cons, List.map_nil, List.pairwise_cons, List.mem_singleton, List.not_mem_nil, false_implies, implies_true, List.Pairwise.nil, and_true, forall_eq]; decide) (fun y => by
    rw [Txt.built_mem]
    unfold txts
    simp only [List.map_cons, List.map_nil, List.mem_cons, List.not_mem_nil, or_false]
    exact Or.comm)
  rw [h, strs_txts]
theorem w_u (n : Nat) (h : n < 1000) : IntKind.u64.wrap (n : Int) = n := wraps_u64 _ (by omega) (by omega)
theorem w_i (n : Int) (h0 : -1000 < n) (h : n < 1000) : wrap64 n = n := by unfold wrap64; omega
theorem many1 : manyV 2 3 2 = 6 := by
  unfold manyV
  have a : IntKind.u64.wrap 3 = 3 := w_u 3 (by decide)
  have b : IntKind.u64.wrap (3 * 2) = 6 := w_u 6 (by decide)
  rw [if_pos rfl, a, b, w_i _ (by decide) (by decide)]
theorem many2 : manyV 2 (-1) 1 = -1 := by
  unfold manyV
  rw [if_pos rfl]
  simp only [Int.mul_one]
  have h : IntKind.u64.wrap (-1) = 18446744073709551615 := by simp [IntKind.wrap, IntKind.bits, IntKind.signed]
  rw [h, wraps_u64 _ (by decide) (by decide)]
  unfold wrap64
  omega
theorem lt_lim (n : Nat) (h : n < 10) : n < 8796093022208 := by omega
theorem aw1 : agg_Add.f 2 0 0 0 [] 0 [] [3] 2 = some (2, 6, []) := by
  unfold agg_Add.f agg_Merge.f mfin
  rw [show rd [3] 0 = 3 from rfl, many1]
  rw [if_neg (by decide), if_neg (by decide), if_neg (by decide), if_neg (by decide), if_pos (by decide), if_neg (by decide), if_pos rfl, if_neg (by decide), if_pos (lt_lim _ (by decide)), builtB_nil]
theorem aw2 : agg_Add.f 2 0 2 6 [] 0 [] [-1] 1 = some (3, 5, []) := by
  unfold agg_Add.f agg_Merge.f mfin
  rw [show rd [-1] 0 = -1 from rfl, many2]
  rw [if_neg (by decide), if_neg (by decide), if_neg (by decide), if_neg (by decide), if_pos (by decide), if_neg (by decide), if_neg (by decide), if_neg (by decide), if_pos (lt_lim _ (by decide))]
  rw [List.append_nil, builtB_nil, show (2 : Int) + 1 = ((3 : Nat) : Int) from rfl, w_u 3 (by decide)]
  unfold mergeV
  rw [if_pos rfl, w_i _ (by decide) (by decide)]
  rfl
theorem aw3 : agg_Add.f 5 0 0 0 [] 0 [strB] [] 1 = some (1, 0, [strB]) := by
  unfold agg_Add.f agg_Merge.f mfin
  rw [show ([strB] : List ByteArray).getD (0 : Int).toNat ⟨#[]⟩ = strB from rfl]
  rw [if_neg (by decide), if_neg (by decide), if_neg (by decide), if_pos rfl, if_pos (by decide), if_neg (by decide), if_pos rfl, if_neg (by decide), if_pos (lt_lim _ (by decide)), builtB_one]
theorem aw4 : agg_Add.f 5 0 0 0 [] 0 [strA] [] 1 = some (1, 0, [strA]) := by
  unfold agg_Add.f agg_Merge.f mfin
  rw [show ([strA] : List ByteArray).getD (0 : Int).toNat ⟨#[]⟩ = strA from rfl]
  rw [if_neg (by decide), if_neg (by decide), if_neg (by decide), if_pos rfl, if_pos (by decide), if_neg (by decide), if_pos rfl, if_neg (by decide), if_pos (lt_lim _ (by decide)), builtB_one]
theorem aw5 : agg_Merge.f 5 0 1 0 [strB] 1 0 [strA] = some (2, 0, [strA, strB]) := by
  unfold agg_Merge.f mfin
  rw [if_neg (by decide), if_neg (by decide), if_neg (by decide), show [strB] ++ [strA] = [strB, strA] from rfl, if_pos (lt_lim _ (by decide)), builtB_ba, show (1 : Int) + 1 = ((2 : Nat) : Int) from rfl, w_u 2 (by decide)]
  rfl
theorem cells_below {w w' : World} {g : Nat} {cs : Array Value} {t : TypeId} (h : w.heap[g]? = some (.cells cs t (0, 0))) (hb : Below w.heap.size w w') : w'.heap[g]? = some (.cells cs t (0, 0)) := blk_below h hb
abbrev Part (w : World) (r1 r2 : Int) (r3 : List ByteArray) (e : Ending) (w' : World) : Prop := ∃ v2_ : Value, e = .returned (.agg #[.int .u64 r1, .int .i64 r2, v2_]) ∧ Kd.R Kd.string 9 w' w.heap.size (fun _ => True) v2_ r3 ∧ Below w.heap.size w w'
theorem addNum (n1 v1 x n r1 r2 : Int) (r3 : List ByteArray) (A1 A9 : Option Addr) (c1 c9 : Nat) (w : World) (hC : Kd.C (Kd.int .i64) w A9 1 [x]) (hc : 1 ≤ c9) (h : agg_Add.f 2 0 n1 v1 [] 0 [] [x] n = some (r1, r2, r3)) :
    Calls Try.prog 19 #[.agg #[.int .i64 2, .int .i64 0], .agg #[.int .u64 n1, .int .i64 v1, .slice A1 0 c1], .agg #[.int .i64 0, .slice none 0 0, .slice A9 1 c9], .int .u64 n] w (Part w r1 r2 r3) :=
  agg_Add.calls 2 0 n1 v1 A1 c1 [] 0 none 0 [] A9 c9 [x] n r1 r2 r3 w (C_none _ _) (Nat.zero_le _) (C_none _ _) (Nat.zero_le _) hC hc h
theorem addText (s : ByteArray) (n r1 r2 : Int) (r3 : List ByteArray) (A1 A9 : Option Addr) (c1 c9 : Nat) (w : World) (hC : Kd.C Kd.string w A9 1 [s]) (hc : 1 ≤ c9) (h : agg_Add.f 5 0 0 0 [] 0 [s] [] n = some (r1, r2, r3)) :
    Calls Try.prog 19 #[.agg #[.int .i64 5, .int .i64 0], .agg #[.int .u64 0, .int .i64 0, .slice A1 0 c1], .agg #[.int .i64 0, .slice A9 1 c9, .slice none 0 0], .int .u64 n] w (Part w r1 r2 r3) :=
  agg_Add.calls 5 0 0 0 A1 c1 [] 0 A9 c9 [s] none 0 [] n r1 r2 r3 w (C_none _ _) (Nat.zero_le _) hC hc ⟨rfl, by simp, fun h => absurd h (by simp)⟩ (Nat.zero_le _) h
theorem start0 (k j : Int) (w : World) : Calls Try.prog 18 #[.agg #[.int .i64 k, .int .i64 j]] w fun e w' => ∃ A c, e = .returned (.agg #[.int .u64 0, .int .i64 0, .slice A 0 c]) ∧ Below w.heap.size w w' :=
  (agg_Start.calls k j 0 0 [] w rfl).mono fun e w' ⟨v, he, ho, hb⟩ => by
    obtain ⟨A, c, rfl, -, -⟩ := Kd.R_reads ho
    exact ⟨A, c, he, hb⟩
theorem reads1 {w : World} {base : Nat} {v : Value} {x : ByteArray} (h : Kd.R Kd.string 9 w base (fun _ => True) v [x]) : ∃ A c, v = .slice A 1 c ∧ 1 ≤ c ∧ Kd.C Kd.string w A 1 [x] := Kd.R_reads h
theorem reads0 {w : World} {base : Nat} {v : Value} (h : Kd.R Kd.string 9 w base (fun _ => True) v []) : ∃ A c, v = .slice A 0 c := by
  obtain ⟨A, c, e, -⟩ := Kd.R_reads h
  exact ⟨A, c, e⟩
theorem reads1' {w : World} {base : Nat} {A : Option Addr} {c : Nat} {x : ByteArray} (h : Kd.R Kd.string 9 w base (fun _ => True) (.slice A 1 c) [x]) : True ∧ Kd.C Kd.string w A 1 [x] := ⟨trivial, (Kd.R_reads' h).2.2⟩
theorem reads2 {w : World} {base : Nat} {v : Value} {x y : ByteArray} (h : Kd.R Kd.string 9 w base (fun _ => True) v [x, y]) : ∃ A c, v = .slice A 2 c ∧ 2 ≤ c ∧ Kd.C Kd.string w A 2 [x, y] := Kd.R_reads h
theorem mergeTexts (s u : ByteArray) (r1 r2 : Int) (r3 : List ByteArray) (A1 A9 : Option Addr) (c1 c9 : Nat) (w : World) (h1 : Kd.C Kd.string w A1 1 [s]) (hc1 : 1 ≤ c1) (hC : Kd.C Kd.string w A9 1 [u]) (hc : 1 ≤ c9) (h : agg_Merge.f 5 0 1 0 [s] 1 0 [u] = some (r1, r2, r3)) :
    Calls Try.prog 17 #[.agg #[.int .i64 5, .int .i64 0], .agg #[.int .u64 1, .int .i64 0, .slice A1 1 c1], .agg #[.int .u64 1, .int .i64 0, .slice A9 1 c9]] w (Part w r1 r2 r3) :=
  agg_Merge.calls 5 0 1 0 A1 c1 [s] 1 0 A9 c9 [u] r1 r2 r3 w h1 hc1 hC hc h
theorem val1 : agg_Value.f 2 0 3 5 [] = some 5 := by unfold agg_Value.f; rw [if_neg (by decide), if_pos (by decide)]
theorem val2 : agg_Value.f 5 0 2 0 [strA, strB] = some 2 := by unfold agg_Value.f; rw [if_neg (by decide), if_neg (by decide), if_pos rfl]; rfl
theorem chk : agg_Check.f 0 0 [⟨2, 0⟩] = some 1 := by
  unfold agg_Check.f anyWrong wrongB
  rw [if_neg (by decide)]
  simp
theorem C_agg1 {w : World} {g : Nat} {a b : Int} {E : Nat} (hb : w.heap[g]? = some (.cells #[.int .i64 a, .int .i64 b] E (0, 0))) : Kd.C k23 w (some ⟨g, 0, none⟩) 1 [⟨a, b⟩] := by
  refine ⟨rfl, by simp, fun _ => ⟨_, rfl, fun q p hp => ?_⟩⟩
  match q, hp with
  | 0, hp =>
    obtain rfl : (⟨a, b⟩ : S23) = p := by simpa using hp
    refine ⟨[.int .i64 a, .int .i64 b], rfl, k23_mk w ⟨a, b⟩, fun i u hu => ?_⟩
    match i, hu with
    | 0, hu =>
      obtain rfl : Value.int .i64 a = u := by simpa using hu
      exact (blk_cell hb 0).trans rfl
    | 1, hu =>
      obtain rfl : Value.int .i64 b = u := by simpa using hu
      exact (blk_cell hb 1).trans rfl
    | i + 2, hu => simp at hu
  | q + 1, hp => simp at hp
theorem check1 (a b c d r : Int) (A : Option Addr) (w : World) (hC : Kd.C k23 w A 1 [⟨c, d⟩]) (h : agg_Check.f a b [⟨c, d⟩] = some r) : Calls Try.prog 21 #[.agg #[.int .i64 a, .int .i64 b], .slice A 1 1] w fun e w' => e = .returned (.int .i64 r) ∧ Below w.heap.size w w' := agg_Check.calls a b A 1 [⟨c, d⟩] r w hC (Nat.le_refl _) h
theorem value0 (k n v r : Int) (A : Option Addr) (c : Nat) (w : World) (h : agg_Value.f k 0 n v [] = some r) : Calls Try.prog 15 #[.agg #[.int .i64 k, .int .i64 0], .agg #[.int .u64 n, .int .i64 v, .slice A 0 c]] w fun e w' => e = .returned (.int .i64 r) ∧ Below w.heap.size w w' := agg_Value.calls k 0 n v A c [] r w (C_none _ _) (Nat.zero_le _) h
theorem value2 (k n v r : Int) (s u : ByteArray) (A : Option Addr) (c : Nat) (w : World) (hC : Kd.C Kd.string w A 2 [s, u]) (hc : 2 ≤ c) (h : agg_Value.f k 0 n v [s, u] = some r) : Calls Try.prog 15 #[.agg #[.int .i64 k, .int .i64 0], .agg #[.int .u64 n, .int .i64 v, .slice A 2 c]] w fun e w' => e = .returned (.int .i64 r) ∧ Below w.heap.size w w' := agg_Value.calls k 0 n v A c [s, u] r w hC hc h
set_option maxRecDepth 100000 in
set_option maxHeartbeats 3200000 in
theorem gristmilllaw06_awake.calls0 (w : World) : Calls Try.prog 10 #[] w fun e w' => e = .returned (.bool true) ∧ Below w.heap.size w w' := by
  go_enter Try.func10, Try.ntmps10
  go_upto_region 2 with (first
    | (((with_reducible refine gate_dst (N := 1) rfl ?_); refine box_event ?hg (N := 1) ?hd (cs := #[.int .i64 0, .int .i64 0]) (t := 23) ?hr ?_; (case hd => rfl); (case hg => rfl); (case hr => first | (go_simp; done) | (go_simp; rfl)); intro g1 hg w1 hbox hb; have GE1 := Aside0.mk (Nat.le_of_eq hg.symm); have BK1 := Aside0.mk hbox; have HX1 := Aside0.mk hb; clear hg hbox hb); (have hg1_0 : w1.cell? ⟨g1, 0, none⟩ = some (.int .i64 0) := (blk_cell BK1.out 0).trans rfl; have hfg1_0 := blk_frozen BK1.out 0; have hg1_1 : w1.cell? ⟨g1, 1, none⟩ = some (.int .i64 0) := (blk_cell BK1.out 1).trans rfl; have hfg1_1 := blk_frozen BK1.out 1))
    | fail)
  have BK1a := Aside0.mk (show ((w1.setCell ⟨g1, 0, none⟩ (.int .i64 2)).setCell ⟨g1, 1, none⟩ (.int .i64 0)).heap[g1]? = some (.cells #[.int .i64 2, .int .i64 0] 23 (0, 0)) from (blk_set (blk_set BK1.out 0 _) 1 _))
  have HB1 := Aside0.mk (show Below w.heap.size w ((w1.setCell ⟨g1, 0, none⟩ (.int .i64 2)).setCell ⟨g1, 1, none⟩ (.int .i64 0)) from below_set (below_set HX1.out GE1.out) GE1.out)
  clear hg1_0 hfg1_0 hg1_1 hfg1_1
  generalize (w1.setCell ⟨g1, 0, none⟩ (.int .i64 2)).setCell ⟨g1, 1, none⟩ (.int .i64 0) = wa at *
  have HB := Aside0.mk (below_drew HB1.out)
  have c0 : wa.cell? ⟨g1, 0, none⟩ = some (.int .i64 2) := (blk_cell BK1a.out 0).trans rfl
  have c1 : wa.cell? ⟨g1, 1, none⟩ = some (.int .i64 0) := (blk_cell BK1a.out 1).trans rfl
  have BK := Aside0.mk (blk_drew BK1a.out)
  go_cut [1, 2] (fun s1 s2 wx => ∃ (g2 : Nat) (A2 : Option Addr) (c2 : Nat), s1 = .pointer (some ⟨g1, 0, none⟩) ∧ s2 = .pointer (some ⟨g2, 0, none⟩) ∧ Aside0 (wx.heap[g1]? = some (.cells #[.int .i64 2, .int .i64 0] 23 (0, 0))) ∧ Aside0 (wx.heap[g2]? = some (.cells #[.int .u64 2, .int .i64 6, .slice A2 0 c2] 33 (0, 0))) ∧ Aside0 (w.heap.size ≤ g2) ∧ Aside0 (Below w.heap.size w wx))
  case first =>
    have HL := Aside0.mk trivial
    refine start_ (n := 8) (S := fun w' => w'.cell? ⟨g1, 0, none⟩ = some (.int .i64 2) ∧ w'.cell? ⟨g1, 1, none⟩ = some (.int .i64 0)) (ds := [7]) #[false, false, false, false, false, false, false, false] (by kernel_rfl) rfl rfl ⟨c0, c1⟩ (fun hHeld => ?_)
    refine take_ (i := 0) (N := some 6) (v := ?_) (a' := ?_) #[true, false, false, false, false, false, false, false] rfl rfl (by kernel_rfl) (fun _ _ _ h => h) (Or.inl ⟨by rfl, ?_⟩) hHeld ?_ ?_
    rotate_left
    · rintro w' ⟨s0, s1⟩
      go_simp
      with_reducible rfl
    rotate_left
    · simp only [Act.put, List.setIfInBounds_toArray, List.set_cons_zero, List.set_cons_succ, i64_w, i32_w]
      rfl
    refine take_ (i := 1) (N := some 7) (v := ?_) (a' := ?_) #[true, true, false, false, false, false, false, false] rfl rfl (by kernel_rfl) (fun _ _ _ h => h) (Or.inl ⟨by rfl, ?_⟩) hHeld ?_ ?_
    rotate_left
    · rintro w' ⟨s0, s1⟩
      go_simp
      with_reducible rfl
    rotate_left
    · simp only [Act.put, List.setIfInBounds_toArray, List.set_cons_zero, List.set_cons_succ, i64_w, i32_w]
      rfl
    refine three_ (i := 2) (j := 3) (k := 6) (Ni := some 8) (Nj := some 9) (Nk := some 2) #[true, true, true, false, false, false, false, false] #[true, true, false, true, false, false, false, false] #[true, true, false, false, false, false, true, false] rfl rfl rfl rfl rfl rfl (by kernel_rfl) (by decide) (by decide) (by decide) (fun K hK => ?_) (fun K hK => ?_) (fun K hK => ?_)
    · skip
      refine goes_ Try.func18 (by kernel_rfl) rfl #[.agg #[.int .i64 2, .int .i64 0]] (by rfl) rfl rfl (by simp only [List.map_toArray, List.map_cons, List.map_nil]; rfl) ?_
      with_reducible refine (start0 2 0 _).mono ?_
      rintro e w3 ⟨A3, c3, rfl, hb3⟩
      refine ⟨_, rfl, ?_⟩
      replace HB := Aside0.mk (below_then HB.out HB.out.size hb3)
      replace BK := Aside0.mk (cells_below BK.out hb3)
      try replace HL := Aside0.mk (Kd.C_below HL.out hb3)
      try replace hbox := Aside0.mk (cells_below hbox.out hb3)
      refine hK.out _ _ ⟨(pw_cell_below hb3 hHeld.1), (pw_cell_below hb3 hHeld.2)⟩ (fun hHeld => ?_)
      clear hK K
      refine norm_ (a' := ?_) ?_ ?_
      rotate_left
      · show Act.put _ (some 8) _ = _
        simp only [Act.put, List.setIfInBounds_toArray, List.set_cons_zero, List.set_cons_succ, i64_w, i32_w]
        rfl
      refine two_ (i := 3) (j := 6) (Ni := some 9) (Nj := some 2) #[true, true, true, true, false, false, false, false] #[true, true, true, false, false, false, true, false] rfl rfl rfl rfl (by kernel_rfl) (by decide) (by decide) (fun K hK => ?_) (fun K hK => ?_)
      · skip
        refine lit1_step (Kd.int .i64) 2 (by rfl) (N := 9) (by rfl) (x := 3) (v := .int .i64 3) ?hr (Reps.one (show Kd.M (Kd.int .i64) _ _ _ 3 [.int .i64 3] from rfl) (Reps.none _ _)) ?_
        case hr => first | (go_simp; done) | (go_simp; rfl)
        intro A9 c9 w9 hC9 hc9 hb9
        replace HB := Aside0.mk (below_then HB.out HB.out.size hb9)
        replace BK := Aside0.mk (cells_below BK.out hb9)
        replace HL := Aside0.mk hC9
        try replace hbox := Aside0.mk (cells_below hbox.out hb9)
        have HLc := Aside0.mk hc9
        clear hC9 hc9
        refine hK.out _ _ ⟨(pw_cell_below hb9 hHeld.1), (pw_cell_below hb9 hHeld.2)⟩ (fun hHeld => ?_)
        clear hK K
        refine norm_ (a' := ?_) ?_ ?_
        rotate_left
        · show Act.put _ (some 9) _ = _
          simp only [Act.put, List.setIfInBounds_toArray, List.set_cons_zero, List.set_cons_succ, i64_w, i32_w]
          rfl
        refine pure_ (i := 4) (N := some 10) (v := ?_) (a' := ?_) #[true, true, true, true, true, false, false, false] rfl rfl (by kernel_rfl) (fun _ _ _ h => h) (Or.inl ⟨by rfl, ?_⟩) ?_ ?_
        rotate_left
        · intro w'
          go_simp
          with_reducible rfl
        rotate_left
        · simp only [Act.put, List.setIfInBounds_toArray, List.set_cons_zero, List.set_cons_succ, i64_w, i32_w]
          rfl
        refine two_ (i := 5) (j := 6) (Ni := some 11) (Nj := some 2) #[true, true, true, true, true, true, false, false] #[true, true, true, true, true, false, true, false] rfl rfl rfl rfl (by kernel_rfl) (by decide) (by decide) (fun K hK => ?_) (fun K hK => ?_)
        · skip
          refine goes_ Try.func19 (by kernel_rfl) rfl #[.agg #[.int .i64 2, .int .i64 0], .agg #[.int .u64 0, .int .i64 0, .slice A3 0 c3], .agg #[.int .i64 0, .slice none 0 0, .slice A9 1 c9], .int .u64 2] (by rfl) rfl rfl (by simp only [List.map_toArray, List.map_cons, List.map_nil]; rfl) ?_
          with_reducible refine (addNum 0 0 3 2 2 6 [] A3 A9 c3 c9 _ HL.out HLc.out aw1).mono ?_
          rintro e w5 ⟨v5, rfl, ho5, hb5⟩
          refine ⟨_, rfl, ?_⟩
          obtain ⟨A5, c5, rfl⟩ := reads0 ho5
          replace HB := Aside0.mk (below_then HB.out HB.out.size hb5)
          replace BK := Aside0.mk (cells_below BK.out hb5)
          try replace hbox := Aside0.mk (cells_below hbox.out hb5)
          clear ho5
          refine hK.out _ _ ⟨(pw_cell_below hb5 hHeld.1), (pw_cell_below hb5 hHeld.2)⟩ (fun hHeld => ?_)
          clear hK K
          refine norm_ (a' := ?_) ?_ ?_
          rotate_left
          · show Act.put _ (some 11) _ = _
            simp only [Act.put, List.setIfInBounds_toArray, List.set_cons_zero, List.set_cons_succ, i64_w, i32_w]
            rfl
          refine one_ (i := 6) (N := some 2) #[true, true, true, true, true, true, true, false] rfl rfl (by kernel_rfl) (by decide) (fun K hK => ?_)
          refine box_step (by rfl) (N := 2) (by rfl) (cs := #[.int .u64 0, .int .i64 0, .slice none 0 0]) (t := 33) ?hr ?_
          case hr => first | (go_simp; done) | (go_simp; rfl)
          intro g2 hg w6 hbox hb6
          have HG2 := Aside0.mk (show w.heap.size ≤ g2 by rw [hg]; exact HB.out.size)
          have hne : g1 ≠ g2 := (by have h1 := blk_lt BK.out; rw [hg]; omega)
          replace HB := Aside0.mk (below_then HB.out HB.out.size hb6)
          replace BK := Aside0.mk (cells_below BK.out hb6)
          try replace HL := Aside0.mk (Kd.C_below HL.out hb6)
          replace hbox := Aside0.mk hbox
          clear hg
          refine hK.out _ _ ⟨(pw_cell_below hb6 hHeld.1), (pw_cell_below hb6 hHeld.2)⟩ (fun hHeld => ?_)
          clear hK K
          refine norm_ (a' := ?_) ?_ ?_
          rotate_left
          · show Act.put _ (some 2) _ = _
            simp only [Act.put, List.setIfInBounds_toArray, List.set_cons_zero, List.set_cons_succ, i64_w, i32_w]
            rfl
          refine last_ (i := 7) (N := none) #[true, true, true, true, true, true, true, true] rfl rfl (by kernel_rfl) (by decide) (fun K hK => ?_)
          (have hq_0 := (blk_cell hbox.out 0).trans (show (#[(.int .u64 0 : Value), (.int .i64 0 : Value), (.slice none 0 0 : Value)] : Array Value)[0]? = some (.int .u64 0) from rfl); have hqf_0 := blk_frozen hbox.out 0; have hq_1 := (blk_cell hbox.out 1).trans (show (#[(.int .u64 0 : Value), (.int .i64 0 : Value), (.slice none 0 0 : Value)] : Array Value)[1]? = some (.int .i64 0) from rfl); have hqf_1 := blk_frozen hbox.out 1; have hq_2 := (blk_cell hbox.out 2).trans (show (#[(.int .u64 0 : Value), (.int .i64 0 : Value), (.slice none 0 0 : Value)] : Array Value)[2]? = some (.slice none 0 0) from rfl); have hqf_2 := blk_frozen hbox.out 2)
          refine skip_ (w1 := ?_) (by rfl) rfl ?_ ?_
          rotate_left
          · go_simp
            rfl
          refine hK.out _ _ ?_
          clear hK K
          refine done_ (by kernel_rfl) ?_
          go_wp2_with fail
          go_meet
          exact ⟨g2, _, _, rfl, rfl, ⟨blk_far (blk_far (blk_far BK.out hne _) hne _) hne _⟩, ⟨blk_set (blk_set (blk_set hbox.out 0 _) 1 _) 2 _⟩, HG2, ⟨below_set (below_set (below_set HB.out HG2.out) HG2.out) HG2.out⟩⟩
        · skip
          refine box_step (by rfl) (N := 2) (by rfl) (cs := #[.int .u64 0, .int .i64 0, .slice none 0 0]) (t := 33) ?hr ?_
          case hr => first | (go_simp; done) | (go_simp; rfl)
          intro g2 hg w6 hbox hb6
          have HG2 := Aside0.mk (show w.heap.size ≤ g2 by rw [hg]; exact HB.out.size)
          have hne : g1 ≠ g2 := (by have h1 := blk_lt BK.out; rw [hg]; omega)
          replace HB := Aside0.mk (below_then HB.out HB.out.size hb6)
          replace BK := Aside0.mk (cells_below BK.out hb6)
          try replace HL := Aside0.mk (Kd.C_below HL.out hb6)
          replace hbox := Aside0.mk hbox
          clear hg
          refine hK.out _ _ ⟨(pw_cell_below hb6 hHeld.1), (pw_cell_below hb6 hHeld.2)⟩ (fun hHeld => ?_)
          clear hK K
          refine norm_ (a' := ?_) ?_ ?_
          rotate_left
          · show Act.put _ (some 2) _ = _
            simp only [Act.put, List.setIfInBounds_toArray, List.set_cons_zero, List.set_cons_succ, i64_w, i32_w]
            rfl
          refine one_ (i := 5) (N := some 11) #[true, true, true, true, true, true, true, false] rfl rfl (by kernel_rfl) (by decide) (fun K hK => ?_)
          refine goes_ Try.func19 (by kernel_rfl) rfl #[.agg #[.int .i64 2, .int .i64 0], .agg #[.int .u64 0, .int .i64 0, .slice A3 0 c3], .agg #[.int .i64 0, .slice none 0 0, .slice A9 1 c9], .int .u64 2] (by rfl) rfl rfl (by simp only [List.map_toArray, List.map_cons, List.map_nil]; rfl) ?_
          with_reducible refine (addNum 0 0 3 2 2 6 [] A3 A9 c3 c9 _ HL.out HLc.out aw1).mono ?_
          rintro e w5 ⟨v5, rfl, ho5, hb5⟩
          refine ⟨_, rfl, ?_⟩
          obtain ⟨A5, c5, rfl⟩ := reads0 ho5
          replace HB := Aside0.mk (below_then HB.out HB.out.size hb5)
          replace BK := Aside0.mk (cells_below BK.out hb5)
          try replace hbox := Aside0.mk (cells_below hbox.out hb5)
          clear ho5
          refine hK.out _ _ ⟨(pw_cell_below hb5 hHeld.1), (pw_cell_below hb5 hHeld.2)⟩ (fun hHeld => ?_)
          clear hK K
          refine norm_ (a' := ?_) ?_ ?_
          rotate_left
          · show Act.put _ (some 11) _ = _
            simp only [Act.put, List.setIfInBounds_toArray, List.set_cons_zero, List.set_cons_succ, i64_w, i32_w]
            rfl
          refine last_ (i := 7) (N := none) #[true, true, true, true, true, true, true, true] rfl rfl (by kernel_rfl) (by decide) (fun K hK => ?_)
          (have hq_0 := (blk_cell hbox.out 0).trans (show (#[(.int .u64 0 : Value), (.int .i64 0 : Value), (.slice none 0 0 : Value)] : Array Value)[0]? = some (.int .u64 0) from rfl); have hqf_0 := blk_frozen hbox.out 0; have hq_1 := (blk_cell hbox.out 1).trans (show (#[(.int .u64 0 : Value), (.int .i64 0 : Value), (.slice none 0 0 : Value)] : Array Value)[1]? = some (.int .i64 0) from rfl); have hqf_1 := blk_frozen hbox.out 1; have hq_2 := (blk_cell hbox.out 2).trans (show (#[(.int .u64 0 : Value), (.int .i64 0 : Value), (.slice none 0 0 : Value)] : Array Value)[2]? = some (.slice none 0 0) from rfl); have hqf_2 := blk_frozen hbox.out 2)
          refine skip_ (w1 := ?_) (by rfl) rfl ?_ ?_
          rotate_left
          · go_simp
            rfl
          refine hK.out _ _ ?_
          clear hK K
          refine done_ (by kernel_rfl) ?_
          go_wp2_with fail
          go_meet
          exact ⟨g2, _, _, rfl, rfl, ⟨blk_far (blk_far (blk_far BK.out hne _) hne _) hne _⟩, ⟨blk_set (blk_set (blk_set hbox.out 0 _) 1 _) 2 _⟩, HG2, ⟨below_set (below_set (below_set HB.out HG2.out) HG2.out) HG2.out⟩⟩
      · skip
        refine box_step (by rfl) (N := 2) (by rfl) (cs := #[.int .u64 0, .int .i64 0, .slice none 0 0]) (t := 33) ?hr ?_
        case hr => first | (go_simp; done) | (go_simp; rfl)
        intro g2 hg w6 hbox hb6
        have HG2 := Aside0.mk (show w.heap.size ≤ g2 by rw [hg]; exact HB.out.size)
        have hne : g1 ≠ g2 := (by have h1 := blk_lt BK.out; rw [hg]; omega)
        replace HB := Aside0.mk (below_then HB.out HB.out.size hb6)
        replace BK := Aside0.mk (cells_below BK.out hb6)
        try replace HL := Aside0.mk (Kd.C_below HL.out hb6)
        replace hbox := Aside0.mk hbox
        clear hg
        refine hK.out _ _ ⟨(pw_cell_below hb6 hHeld.1), (pw_cell_below hb6 hHeld.2)⟩ (fun hHeld => ?_)
        clear hK K
        refine norm_ (a' := ?_) ?_ ?_
        rotate_left
        · show Act.put _ (some 2) _ = _
          simp only [Act.put, List.setIfInBounds_toArray, List.set_cons_zero, List.set_cons_succ, i64_w, i32_w]
          rfl
        refine one_ (i := 3) (N := some 9) #[true, true, true, true, false, false, true, false] rfl rfl (by kernel_rfl) (by decide) (fun K hK => ?_)
        refine lit1_step (Kd.int .i64) 2 (by rfl) (N := 9) (by rfl) (x := 3) (v := .int .i64 3) ?hr (Reps.one (show Kd.M (Kd.int .i64) _ _ _ 3 [.int .i64 3] from rfl) (Reps.none _ _)) ?_
        case hr => first | (go_simp; done) | (go_simp; rfl)
        intro A9 c9 w9 hC9 hc9 hb9
        replace HB := Aside0.mk (below_then HB.out HB.out.size hb9)
        replace BK := Aside0.mk (cells_below BK.out hb9)
        replace HL := Aside0.mk hC9
        try replace hbox := Aside0.mk (cells_below hbox.out hb9)
        have HLc := Aside0.mk hc9
        clear hC9 hc9
        refine hK.out _ _ ⟨(pw_cell_below hb9 hHeld.1), (pw_cell_below hb9 hHeld.2)⟩ (fun hHeld => ?_)
        clear hK K
        refine norm_ (a' := ?_) ?_ ?_
        rotate_left
        · show Act.put _ (some 9) _ = _
          simp only [Act.put, List.setIfInBounds_toArray, List.set_cons_zero, List.set_cons_succ, i64_w, i32_w]
          rfl
        refine pure_ (i := 4) (N := some 10) (v := ?_) (a' := ?_) #[true, true, true, true, true, false, true, false] rfl rfl (by kernel_rfl) (fun _ _ _ h => h) (Or.inl ⟨by rfl, ?_⟩) ?_ ?_
        rotate_left
        · intro w'
          go_simp
          with_reducible rfl
        rotate_left
        · simp only [Act.put, List.setIfInBounds_toArray, List.set_cons_zero, List.set_cons_succ, i64_w, i32_w]
          rfl
        refine one_ (i := 5) (N := some 11) #[true, true, true, true, true, true, true, false] rfl rfl (by kernel_rfl) (by decide) (fun K hK => ?_)
        refine goes_ Try.func19 (by kernel_rfl) rfl #[.agg #[.int .i64 2, .int .i64 0], .agg #[.int .u64 0, .int .i64 0, .slice A3 0 c3], .agg #[.int .i64 0, .slice none 0 0, .slice A9 1 c9], .int .u64 2] (by rfl) rfl rfl (by simp only [List.map_toArray, List.map_cons, List.map_nil]; rfl) ?_
        with_reducible refine (addNum 0 0 3 2 2 6 [] A3 A9 c3 c9 _ HL.out HLc.out aw1).mono ?_
        rintro e w5 ⟨v5, rfl, ho5, hb5⟩
        refine ⟨_, rfl, ?_⟩
        obtain ⟨A5, c5, rfl⟩ := reads0 ho5
        replace HB := Aside0.mk (below_then HB.out HB.out.size hb5)
        replace BK := Aside0.mk (cells_below BK.out hb5)
        try replace hbox := Aside0.mk (cells_below hbox.out hb5)
        clear ho5
        refine hK.out _ _ ⟨(pw_cell_below hb5 hHeld.1), (pw_cell_below hb5 hHeld.2)⟩ (fun hHeld => ?_)
        clear hK K
        refine norm_ (a' := ?_) ?_ ?_
        rotate_left
        · show Act.put _ (some 11) _ = _
          simp only [Act.put, List.setIfInBounds_toArray, List.set_cons_zero, List.set_cons_succ, i64_w, i32_w]
          rfl
        refine last_ (i := 7) (N := none) #[true, true, true, true, true, true, true, true] rfl rfl (by kernel_rfl) (by decide) (fun K hK => ?_)
        (have hq_0 := (blk_cell hbox.out 0).trans (show (#[(.int .u64 0 : Value), (.int .i64 0 : Value), (.slice none 0 0 : Value)] : Array Value)[0]? = some (.int .u64 0) from rfl); have hqf_0 := blk_frozen hbox.out 0; have hq_1 := (blk_cell hbox.out 1).trans (show (#[(.int .u64 0 : Value), (.int .i64 0 : Value), (.slice none 0 0 : Value)] : Array Value)[1]? = some (.int .i64 0) from rfl); have hqf_1 := blk_frozen hbox.out 1; have hq_2 := (blk_cell hbox.out 2).trans (show (#[(.int .u64 0 : Value), (.int .i64 0 : Value), (.slice none 0 0 : Value)] : Array Value)[2]? = some (.slice none 0 0) from rfl); have hqf_2 := blk_frozen hbox.out 2)
        refine skip_ (w1 := ?_) (by rfl) rfl ?_ ?_
        rotate_left
        · go_simp
          rfl
        refine hK.out _ _ ?_
        clear hK K
        refine done_ (by kernel_rfl) ?_
        go_wp2_with fail
        go_meet
        exact ⟨g2, _, _, rfl, rfl, ⟨blk_far (blk_far (blk_far BK.out hne _) hne _) hne _⟩, ⟨blk_set (blk_set (blk_set hbox.out 0 _) 1 _) 2 _⟩, HG2, ⟨below_set (below_set (below_set HB.out HG2.out) HG2.out) HG2.out⟩⟩
    · skip
      refine lit1_step (Kd.int .i64) 2 (by rfl) (N := 9) (by rfl) (x := 3) (v := .int .i64 3) ?hr (Reps.one (show Kd.M (Kd.int .i64) _ _ _ 3 [.int .i64 3] from rfl) (Reps.none _ _)) ?_
      case hr => first | (go_simp; done) | (go_simp; rfl)
      intro A9 c9 w9 hC9 hc9 hb9
      replace HB := Aside0.mk (below_then HB.out HB.out.size hb9)
      replace BK := Aside0.mk (cells_below BK.out hb9)
      replace HL := Aside0.mk hC9
      try replace hbox := Aside0.mk (cells_below hbox.out hb9)
      have HLc := Aside0.mk hc9
      clear hC9 hc9
      refine hK.out _ _ ⟨(pw_cell_below hb9 hHeld.1), (pw_cell_below hb9 hHeld.2)⟩ (fun hHeld => ?_)
      clear hK K
      refine norm_ (a' := ?_) ?_ ?_
      rotate_left
      · show Act.put _ (some 9) _ = _
        simp only [Act.put, List.setIfInBounds_toArray, List.set_cons_zero, List.set_cons_succ, i64_w, i32_w]
        rfl
      refine pure_ (i := 4) (N := some 10) (v := ?_) (a' := ?_) #[true, true, false, true, true, false, false, false] rfl rfl (by kernel_rfl) (fun _ _ _ h => h) (Or.inl ⟨by rfl, ?_⟩) ?_ ?_
      rotate_left
      · intro w'
        go_simp
        with_reducible rfl
      rotate_left
      · simp only [Act.put, List.setIfInBounds_toArray, List.set_cons_zero, List.set_cons_succ, i64_w, i32_w]
        rfl
      refine two_ (i := 2) (j := 6) (Ni := some 8) (Nj := some 2) #[true, true, true, true, true, false, false, false] #[true, true, false, true, true, false, true, false] rfl rfl rfl rfl (by kernel_rfl) (by decide) (by decide) (fun K hK => ?_) (fun K hK => ?_)
      · skip
        refine goes_ Try.func18 (by kernel_rfl) rfl #[.agg #[.int .i64 2, .int .i64 0]] (by rfl) rfl rfl (by simp only [List.map_toArray, List.map_cons, List.map_nil]; rfl) ?_
        with_reducible refine (start0 2 0 _).mono ?_
        rintro e w3 ⟨A3, c3, rfl, hb3⟩
        refine ⟨_, rfl, ?_⟩
        replace HB := Aside0.mk (below_then HB.out HB.out.size hb3)
        replace BK := Aside0.mk (cells_below BK.out hb3)
        try replace HL := Aside0.mk (Kd.C_below HL.out hb3)
        try replace hbox := Aside0.mk (cells_below hbox.out hb3)
        refine hK.out _ _ ⟨(pw_cell_below hb3 hHeld.1), (pw_cell_below hb3 hHeld.2)⟩ (fun hHeld => ?_)
        clear hK K
        refine norm_ (a' := ?_) ?_ ?_
        rotate_left
        · show Act.put _ (some 8) _ = _
          simp only [Act.put, List.setIfInBounds_toArray, List.set_cons_zero, List.set_cons_succ, i64_w, i32_w]
          rfl
        refine two_ (i := 5) (j := 6) (Ni := some 11) (Nj := some 2) #[true, true, true, true, true, true, false, false] #[true, true, true, true, true, false, true, false] rfl rfl rfl rfl (by kernel_rfl) (by decide) (by decide) (fun K hK => ?_) (fun K hK => ?_)
        · skip
          refine goes_ Try.func19 (by kernel_rfl) rfl #[.agg #[.int .i64 2, .int .i64 0], .agg #[.int .u64 0, .int .i64 0, .slice A3 0 c3], .agg #[.int .i64 0, .slice none 0 0, .slice A9 1 c9], .int .u64 2] (by rfl) rfl rfl (by simp only [List.map_toArray, List.map_cons, List.map_nil]; rfl) ?_
          with_reducible refine (addNum 0 0 3 2 2 6 [] A3 A9 c3 c9 _ HL.out HLc.out aw1).mono ?_
          rintro e w5 ⟨v5, rfl, ho5, hb5⟩
          refine ⟨_, rfl, ?_⟩
          obtain ⟨A5, c5, rfl⟩ := reads0 ho5
          replace HB := Aside0.mk (below_then HB.out HB.out.size hb5)
          replace BK := Aside0.mk (cells_below BK.out hb5)
          try replace hbox := Aside0.mk (cells_below hbox.out hb5)
          clear ho5
          refine hK.out _ _ ⟨(pw_cell_below hb5 hHeld.1), (pw_cell_below hb5 hHeld.2)⟩ (fun hHeld => ?_)
          clear hK K
          refine norm_ (a' := ?_) ?_ ?_
          rotate_left
          · show Act.put _ (some 11) _ = _
            simp only [Act.put, List.setIfInBounds_toArray, List.set_cons_zero, List.set_cons_succ, i64_w, i32_w]
            rfl
          refine one_ (i := 6) (N := some 2) #[true, true, true, true, true, true, true, false] rfl rfl (by kernel_rfl) (by decide) (fun K hK => ?_)
          refine box_step (by rfl) (N := 2) (by rfl) (cs := #[.int .u64 0, .int .i64 0, .slice none 0 0]) (t := 33) ?hr ?_
          case hr => first | (go_simp; done) | (go_simp; rfl)
          intro g2 hg w6 hbox hb6
          have HG2 := Aside0.mk (show w.heap.size ≤ g2 by rw [hg]; exact HB.out.size)
          have hne : g1 ≠ g2 := (by have h1 := blk_lt BK.out; rw [hg]; omega)
          replace HB := Aside0.mk (below_then HB.out HB.out.size hb6)
          replace BK := Aside0.mk (cells_below BK.out hb6)
          try replace HL := Aside0.mk (Kd.C_below HL.out hb6)
          replace hbox := Aside0.mk hbox
          clear hg
          refine hK.out _ _ ⟨(pw_cell_below hb6 hHeld.1), (pw_cell_below hb6 hHeld.2)⟩ (fun hHeld => ?_)
          clear hK K
          refine norm_ (a' := ?_) ?_ ?_
          rotate_left
          · show Act.put _ (some 2) _ = _
            simp only [Act.put, List.setIfInBounds_toArray, List.set_cons_zero, List.set_cons_succ, i64_w, i32_w]
            rfl
          refine last_ (i := 7) (N := none) #[true, true, true, true, true, true, true, true] rfl rfl (by kernel_rfl) (by decide) (fun K hK => ?_)
          (have hq_0 := (blk_cell hbox.out 0).trans (show (#[(.int .u64 0 : Value), (.int .i64 0 : Value), (.slice none 0 0 : Value)] : Array Value)[0]? = some (.int .u64 0) from rfl); have hqf_0 := blk_frozen hbox.out 0; have hq_1 := (blk_cell hbox.out 1).trans (show (#[(.int .u64 0 : Value), (.int .i64 0 : Value), (.slice none 0 0 : Value)] : Array Value)[1]? = some (.int .i64 0) from rfl); have hqf_1 := blk_frozen hbox.out 1; have hq_2 := (blk_cell hbox.out 2).trans (show (#[(.int .u64 0 : Value), (.int .i64 0 : Value), (.slice none 0 0 : Value)] : Array Value)[2]? = some (.slice none 0 0) from rfl); have hqf_2 := blk_frozen hbox.out 2)
          refine skip_ (w1 := ?_) (by rfl) rfl ?_ ?_
          rotate_left
          · go_simp
            rfl
          refine hK.out _ _ ?_
          clear hK K
          refine done_ (by kernel_rfl) ?_
          go_wp2_with fail
          go_meet
          exact ⟨g2, _, _, rfl, rfl, ⟨blk_far (blk_far (blk_far BK.out hne _) hne _) hne _⟩, ⟨blk_set (blk_set (blk_set hbox.out 0 _) 1 _) 2 _⟩, HG2, ⟨below_set (below_set (below_set HB.out HG2.out) HG2.out) HG2.out⟩⟩
        · skip
          refine box_step (by rfl) (N := 2) (by rfl) (cs := #[.int .u64 0, .int .i64 0, .slice none 0 0]) (t := 33) ?hr ?_
          case hr => first | (go_simp; done) | (go_simp; rfl)
          intro g2 hg w6 hbox hb6
          have HG2 := Aside0.mk (show w.heap.size ≤ g2 by rw [hg]; exact HB.out.size)
          have hne : g1 ≠ g2 := (by have h1 := blk_lt BK.out; rw [hg]; omega)
          replace HB := Aside0.mk (below_then HB.out HB.out.size hb6)
          replace BK := Aside0.mk (cells_below BK.out hb6)
          try replace HL := Aside0.mk (Kd.C_below HL.out hb6)
          replace hbox := Aside0.mk hbox
          clear hg
          refine hK.out _ _ ⟨(pw_cell_below hb6 hHeld.1), (pw_cell_below hb6 hHeld.2)⟩ (fun hHeld => ?_)
          clear hK K
          refine norm_ (a' := ?_) ?_ ?_
          rotate_left
          · show Act.put _ (some 2) _ = _
            simp only [Act.put, List.setIfInBounds_toArray, List.set_cons_zero, List.set_cons_succ, i64_w, i32_w]
            rfl
          refine one_ (i := 5) (N := some 11) #[true, true, true, true, true, true, true, false] rfl rfl (by kernel_rfl) (by decide) (fun K hK => ?_)
          refine goes_ Try.func19 (by kernel_rfl) rfl #[.agg #[.int .i64 2, .int .i64 0], .agg #[.int .u64 0, .int .i64 0, .slice A3 0 c3], .agg #[.int .i64 0, .slice none 0 0, .slice A9 1 c9], .int .u64 2] (by rfl) rfl rfl (by simp only [List.map_toArray, List.map_cons, List.map_nil]; rfl) ?_
          with_reducible refine (addNum 0 0 3 2 2 6 [] A3 A9 c3 c9 _ HL.out HLc.out aw1).mono ?_
          rintro e w5 ⟨v5, rfl, ho5, hb5⟩
          refine ⟨_, rfl, ?_⟩
          obtain ⟨A5, c5, rfl⟩ := reads0 ho5
          replace HB := Aside0.mk (below_then HB.out HB.out.size hb5)
          replace BK := Aside0.mk (cells_below BK.out hb5)
          try replace hbox := Aside0.mk (cells_below hbox.out hb5)
          clear ho5
          refine hK.out _ _ ⟨(pw_cell_below hb5 hHeld.1), (pw_cell_below hb5 hHeld.2)⟩ (fun hHeld => ?_)
          clear hK K
          refine norm_ (a' := ?_) ?_ ?_
          rotate_left
          · show Act.put _ (some 11) _ = _
            simp only [Act.put, List.setIfInBounds_toArray, List.set_cons_zero, List.set_cons_succ, i64_w, i32_w]
            rfl
          refine last_ (i := 7) (N := none) #[true, true, true, true, true, true, true, true] rfl rfl (by kernel_rfl) (by decide) (fun K hK => ?_)
          (have hq_0 := (blk_cell hbox.out 0).trans (show (#[(.int .u64 0 : Value), (.int .i64 0 : Value), (.slice none 0 0 : Value)] : Array Value)[0]? = some (.int .u64 0) from rfl); have hqf_0 := blk_frozen hbox.out 0; have hq_1 := (blk_cell hbox.out 1).trans (show (#[(.int .u64 0 : Value), (.int .i64 0 : Value), (.slice none 0 0 : Value)] : Array Value)[1]? = some (.int .i64 0) from rfl); have hqf_1 := blk_frozen hbox.out 1; have hq_2 := (blk_cell hbox.out 2).trans (show (#[(.int .u64 0 : Value), (.int .i64 0 : Value), (.slice none 0 0 : Value)] : Array Value)[2]? = some (.slice none 0 0) from rfl); have hqf_2 := blk_frozen hbox.out 2)
          refine skip_ (w1 := ?_) (by rfl) rfl ?_ ?_
          rotate_left
          · go_simp
            rfl
          refine hK.out _ _ ?_
          clear hK K
          refine done_ (by kernel_rfl) ?_
          go_wp2_with fail
          go_meet
          exact ⟨g2, _, _, rfl, rfl, ⟨blk_far (blk_far (blk_far BK.out hne _) hne _) hne _⟩, ⟨blk_set (blk_set (blk_set hbox.out 0 _) 1 _) 2 _⟩, HG2, ⟨below_set (below_set (below_set HB.out HG2.out) HG2.out) HG2.out⟩⟩
      · skip
        refine box_step (by rfl) (N := 2) (by rfl) (cs := #[.int .u64 0, .int .i64 0, .slice none 0 0]) (t := 33) ?hr ?_
        case hr => first | (go_simp; done) | (go_simp; rfl)
        intro g2 hg w6 hbox hb6
        have HG2 := Aside0.mk (show w.heap.size ≤ g2 by rw [hg]; exact HB.out.size)
        have hne : g1 ≠ g2 := (by have h1 := blk_lt BK.out; rw [hg]; omega)
        replace HB := Aside0.mk (below_then HB.out HB.out.size hb6)
        replace BK := Aside0.mk (cells_below BK.out hb6)
        try replace HL := Aside0.mk (Kd.C_below HL.out hb6)
        replace hbox := Aside0.mk hbox
        clear hg
        refine hK.out _ _ ⟨(pw_cell_below hb6 hHeld.1), (pw_cell_below hb6 hHeld.2)⟩ (fun hHeld => ?_)
        clear hK K
        refine norm_ (a' := ?_) ?_ ?_
        rotate_left
        · show Act.put _ (some 2) _ = _
          simp only [Act.put, List.setIfInBounds_toArray, List.set_cons_zero, List.set_cons_succ, i64_w, i32_w]
          rfl
        refine one_ (i := 2) (N := some 8) #[true, true, true, true, true, false, true, false] rfl rfl (by kernel_rfl) (by decide) (fun K hK => ?_)
        refine goes_ Try.func18 (by kernel_rfl) rfl #[.agg #[.int .i64 2, .int .i64 0]] (by rfl) rfl rfl (by simp only [List.map_toArray, List.map_cons, List.map_nil]; rfl) ?_
        with_reducible refine (start0 2 0 _).mono ?_
        rintro e w3 ⟨A3, c3, rfl, hb3⟩
        refine ⟨_, rfl, ?_⟩
        replace HB := Aside0.mk (below_then HB.out HB.out.size hb3)
        replace BK := Aside0.mk (cells_below BK.out hb3)
        try replace HL := Aside0.mk (Kd.C_below HL.out hb3)
        try replace hbox := Aside0.mk (cells_below hbox.out hb3)
        refine hK.out _ _ ⟨(pw_cell_below hb3 hHeld.1), (pw_cell_below hb3 hHeld.2)⟩ (fun hHeld => ?_)
        clear hK K
        refine norm_ (a' := ?_) ?_ ?_
        rotate_left
        · show Act.put _ (some 8) _ = _
          simp only [Act.put, List.setIfInBounds_toArray, List.set_cons_zero, List.set_cons_succ, i64_w, i32_w]
          rfl
        refine one_ (i := 5) (N := some 11) #[true, true, true, true, true, true, true, false] rfl rfl (by kernel_rfl) (by decide) (fun K hK => ?_)
        refine goes_ Try.func19 (by kernel_rfl) rfl #[.agg #[.int .i64 2, .int .i64 0], .agg #[.int .u64 0, .int .i64 0, .slice A3 0 c3], .agg #[.int .i64 0, .slice none 0 0, .slice A9 1 c9], .int .u64 2] (by rfl) rfl rfl (by simp only [List.map_toArray, List.map_cons, List.map_nil]; rfl) ?_
        with_reducible refine (addNum 0 0 3 2 2 6 [] A3 A9 c3 c9 _ HL.out HLc.out aw1).mono ?_
        rintro e w5 ⟨v5, rfl, ho5, hb5⟩
        refine ⟨_, rfl, ?_⟩
        obtain ⟨A5, c5, rfl⟩ := reads0 ho5
        replace HB := Aside0.mk (below_then HB.out HB.out.size hb5)
        replace BK := Aside0.mk (cells_below BK.out hb5)
        try replace hbox := Aside0.mk (cells_below hbox.out hb5)
        clear ho5
        refine hK.out _ _ ⟨(pw_cell_below hb5 hHeld.1), (pw_cell_below hb5 hHeld.2)⟩ (fun hHeld => ?_)
        clear hK K
        refine norm_ (a' := ?_) ?_ ?_
        rotate_left
        · show Act.put _ (some 11) _ = _
          simp only [Act.put, List.setIfInBounds_toArray, List.set_cons_zero, List.set_cons_succ, i64_w, i32_w]
          rfl
        refine last_ (i := 7) (N := none) #[true, true, true, true, true, true, true, true] rfl rfl (by kernel_rfl) (by decide) (fun K hK => ?_)
        (have hq_0 := (blk_cell hbox.out 0).trans (show (#[(.int .u64 0 : Value), (.int .i64 0 : Value), (.slice none 0 0 : Value)] : Array Value)[0]? = some (.int .u64 0) from rfl); have hqf_0 := blk_frozen hbox.out 0; have hq_1 := (blk_cell hbox.out 1).trans (show (#[(.int .u64 0 : Value), (.int .i64 0 : Value), (.slice none 0 0 : Value)] : Array Value)[1]? = some (.int .i64 0) from rfl); have hqf_1 := blk_frozen hbox.out 1; have hq_2 := (blk_cell hbox.out 2).trans (show (#[(.int .u64 0 : Value), (.int .i64 0 : Value), (.slice none 0 0 : Value)] : Array Value)[2]? = some (.slice none 0 0) from rfl); have hqf_2 := blk_frozen hbox.out 2)
        refine skip_ (w1 := ?_) (by rfl) rfl ?_ ?_
        rotate_left
        · go_simp
          rfl
        refine hK.out _ _ ?_
        clear hK K
        refine done_ (by kernel_rfl) ?_
        go_wp2_with fail
        go_meet
        exact ⟨g2, _, _, rfl, rfl, ⟨blk_far (blk_far (blk_far BK.out hne _) hne _) hne _⟩, ⟨blk_set (blk_set (blk_set hbox.out 0 _) 1 _) 2 _⟩, HG2, ⟨below_set (below_set (below_set HB.out HG2.out) HG2.out) HG2.out⟩⟩
    · skip
      refine box_step (by rfl) (N := 2) (by rfl) (cs := #[.int .u64 0, .int .i64 0, .slice none 0 0]) (t := 33) ?hr ?_
      case hr => first | (go_simp; done) | (go_simp; rfl)
      intro g2 hg w6 hbox hb6
      have HG2 := Aside0.mk (show w.heap.size ≤ g2 by rw [hg]; exact HB.out.size)
      have hne : g1 ≠ g2 := (by have h1 := blk_lt BK.out; rw [hg]; omega)
      replace HB := Aside0.mk (below_then HB.out HB.out.size hb6)
      replace BK := Aside0.mk (cells_below BK.out hb6)
      try replace HL := Aside0.mk (Kd.C_below HL.out hb6)
      replace hbox := Aside0.mk hbox
      clear hg
      refine hK.out _ _ ⟨(pw_cell_below hb6 hHeld.1), (pw_cell_below hb6 hHeld.2)⟩ (fun hHeld => ?_)
      clear hK K
      refine norm_ (a' := ?_) ?_ ?_
      rotate_left
      · show Act.put _ (some 2) _ = _
        simp only [Act.put, List.setIfInBounds_toArray, List.set_cons_zero, List.set_cons_succ, i64_w, i32_w]
        rfl
      refine two_ (i := 2) (j := 3) (Ni := some 8) (Nj := some 9) #[true, true, true, false, false, false, true, false] #[true, true, false, true, false, false, true, false] rfl rfl rfl rfl (by kernel_rfl) (by decide) (by decide) (fun K hK => ?_) (fun K hK => ?_)
      · skip
        refine goes_ Try.func18 (by kernel_rfl) rfl #[.agg #[.int .i64 2, .int .i64 0]] (by rfl) rfl rfl (by simp only [List.map_toArray, List.map_cons, List.map_nil]; rfl) ?_
        with_reducible refine (start0 2 0 _).mono ?_
        rintro e w3 ⟨A3, c3, rfl, hb3⟩
        refine ⟨_, rfl, ?_⟩
        replace HB := Aside0.mk (below_then HB.out HB.out.size hb3)
        replace BK := Aside0.mk (cells_below BK.out hb3)
        try replace HL := Aside0.mk (Kd.C_below HL.out hb3)
        try replace hbox := Aside0.mk (cells_below hbox.out hb3)
        refine hK.out _ _ ⟨(pw_cell_below hb3 hHeld.1), (pw_cell_below hb3 hHeld.2)⟩ (fun hHeld => ?_)
        clear hK K
        refine norm_ (a' := ?_) ?_ ?_
        rotate_left
        · show Act.put _ (some 8) _ = _
          simp only [Act.put, List.setIfInBounds_toArray, List.set_cons_zero, List.set_cons_succ, i64_w, i32_w]
          rfl
        refine one_ (i := 3) (N := some 9) #[true, true, true, true, false, false, true, false] rfl rfl (by kernel_rfl) (by decide) (fun K hK => ?_)
        refine lit1_step (Kd.int .i64) 2 (by rfl) (N := 9) (by rfl) (x := 3) (v := .int .i64 3) ?hr (Reps.one (show Kd.M (Kd.int .i64) _ _ _ 3 [.int .i64 3] from rfl) (Reps.none _ _)) ?_
        case hr => first | (go_simp; done) | (go_simp; rfl)
        intro A9 c9 w9 hC9 hc9 hb9
        replace HB := Aside0.mk (below_then HB.out HB.out.size hb9)
        replace BK := Aside0.mk (cells_below BK.out hb9)
        replace HL := Aside0.mk hC9
        try replace hbox := Aside0.mk (cells_below hbox.out hb9)
        have HLc := Aside0.mk hc9
        clear hC9 hc9
        refine hK.out _ _ ⟨(pw_cell_below hb9 hHeld.1), (pw_cell_below hb9 hHeld.2)⟩ (fun hHeld => ?_)
        clear hK K
        refine norm_ (a' := ?_) ?_ ?_
        rotate_left
        · show Act.put _ (some 9) _ = _
          simp only [Act.put, List.setIfInBounds_toArray, List.set_cons_zero, List.set_cons_succ, i64_w, i32_w]
          rfl
        refine pure_ (i := 4) (N := some 10) (v := ?_) (a' := ?_) #[true, true, true, true, true, false, true, false] rfl rfl (by kernel_rfl) (fun _ _ _ h => h) (Or.inl ⟨by rfl, ?_⟩) ?_ ?_
        rotate_left
        · intro w'
          go_simp
          with_reducible rfl
        rotate_left
        · simp only [Act.put, List.setIfInBounds_toArray, List.set_cons_zero, List.set_cons_succ, i64_w, i32_w]
          rfl
        refine one_ (i := 5) (N := some 11) #[true, true, true, true, true, true, true, false] rfl rfl (by kernel_rfl) (by decide) (fun K hK => ?_)
        refine goes_ Try.func19 (by kernel_rfl) rfl #[.agg #[.int .i64 2, .int .i64 0], .agg #[.int .u64 0, .int .i64 0, .slice A3 0 c3], .agg #[.int .i64 0, .slice none 0 0, .slice A9 1 c9], .int .u64 2] (by rfl) rfl rfl (by simp only [List.map_toArray, List.map_cons, List.map_nil]; rfl) ?_
        with_reducible refine (addNum 0 0 3 2 2 6 [] A3 A9 c3 c9 _ HL.out HLc.out aw1).mono ?_
        rintro e w5 ⟨v5, rfl, ho5, hb5⟩
        refine ⟨_, rfl, ?_⟩
        obtain ⟨A5, c5, rfl⟩ := reads0 ho5
        replace HB := Aside0.mk (below_then HB.out HB.out.size hb5)
        replace BK := Aside0.mk (cells_below BK.out hb5)
        try replace hbox := Aside0.mk (cells_below hbox.out hb5)
        clear ho5
        refine hK.out _ _ ⟨(pw_cell_below hb5 hHeld.1), (pw_cell_below hb5 hHeld.2)⟩ (fun hHeld => ?_)
        clear hK K
        refine norm_ (a' := ?_) ?_ ?_
        rotate_left
        · show Act.put _ (some 11) _ = _
          simp only [Act.put, List.setIfInBounds_toArray, List.set_cons_zero, List.set_cons_succ, i64_w, i32_w]
          rfl
        refine last_ (i := 7) (N := none) #[true, true, true, true, true, true, true, true] rfl rfl (by kernel_rfl) (by decide) (fun K hK => ?_)
        (have hq_0 := (blk_cell hbox.out 0).trans (show (#[(.int .u64 0 : Value), (.int .i64 0 : Value), (.slice none 0 0 : Value)] : Array Value)[0]? = some (.int .u64 0) from rfl); have hqf_0 := blk_frozen hbox.out 0; have hq_1 := (blk_cell hbox.out 1).trans (show (#[(.int .u64 0 : Value), (.int .i64 0 : Value), (.slice none 0 0 : Value)] : Array Value)[1]? = some (.int .i64 0) from rfl); have hqf_1 := blk_frozen hbox.out 1; have hq_2 := (blk_cell hbox.out 2).trans (show (#[(.int .u64 0 : Value), (.int .i64 0 : Value), (.slice none 0 0 : Value)] : Array Value)[2]? = some (.slice none 0 0) from rfl); have hqf_2 := blk_frozen hbox.out 2)
        refine skip_ (w1 := ?_) (by rfl) rfl ?_ ?_
        rotate_left
        · go_simp
          rfl
        refine hK.out _ _ ?_
        clear hK K
        refine done_ (by kernel_rfl) ?_
        go_wp2_with fail
        go_meet
        exact ⟨g2, _, _, rfl, rfl, ⟨blk_far (blk_far (blk_far BK.out hne _) hne _) hne _⟩, ⟨blk_set (blk_set (blk_set hbox.out 0 _) 1 _) 2 _⟩, HG2, ⟨below_set (below_set (below_set HB.out HG2.out) HG2.out) HG2.out⟩⟩
      · skip
        refine lit1_step (Kd.int .i64) 2 (by rfl) (N := 9) (by rfl) (x := 3) (v := .int .i64 3) ?hr (Reps.one (show Kd.M (Kd.int .i64) _ _ _ 3 [.int .i64 3] from rfl) (Reps.none _ _)) ?_
        case hr => first | (go_simp; done) | (go_simp; rfl)
        intro A9 c9 w9 hC9 hc9 hb9
        replace HB := Aside0.mk (below_then HB.out HB.out.size hb9)
        replace BK := Aside0.mk (cells_below BK.out hb9)
        replace HL := Aside0.mk hC9
        try replace hbox := Aside0.mk (cells_below hbox.out hb9)
        have HLc := Aside0.mk hc9
        clear hC9 hc9
        refine hK.out _ _ ⟨(pw_cell_below hb9 hHeld.1), (pw_cell_below hb9 hHeld.2)⟩ (fun hHeld => ?_)
        clear hK K
        refine norm_ (a' := ?_) ?_ ?_
        rotate_left
        · show Act.put _ (some 9) _ = _
          simp only [Act.put, List.setIfInBounds_toArray, List.set_cons_zero, List.set_cons_succ, i64_w, i32_w]
          rfl
        refine pure_ (i := 4) (N := some 10) (v := ?_) (a' := ?_) #[true, true, false, true, true, false, true, false] rfl rfl (by kernel_rfl) (fun _ _ _ h => h) (Or.inl ⟨by rfl, ?_⟩) ?_ ?_
        rotate_left
        · intro w'
          go_simp
          with_reducible rfl
        rotate_left
        · simp only [Act.put, List.setIfInBounds_toArray, List.set_cons_zero, List.set_cons_succ, i64_w, i32_w]
          rfl
        refine one_ (i := 2) (N := some 8) #[true, true, true, true, true, false, true, false] rfl rfl (by kernel_rfl) (by decide) (fun K hK => ?_)
        refine goes_ Try.func18 (by kernel_rfl) rfl #[.agg #[.int .i64 2, .int .i64 0]] (by rfl) rfl rfl (by simp only [List.map_toArray, List.map_cons, List.map_nil]; rfl) ?_
        with_reducible refine (start0 2 0 _).mono ?_
        rintro e w3 ⟨A3, c3, rfl, hb3⟩
        refine ⟨_, rfl, ?_⟩
        replace HB := Aside0.mk (below_then HB.out HB.out.size hb3)
        replace BK := Aside0.mk (cells_below BK.out hb3)
        try replace HL := Aside0.mk (Kd.C_below HL.out hb3)
        try replace hbox := Aside0.mk (cells_below hbox.out hb3)
        refine hK.out _ _ ⟨(pw_cell_below hb3 hHeld.1), (pw_cell_below hb3 hHeld.2)⟩ (fun hHeld => ?_)
        clear hK K
        refine norm_ (a' := ?_) ?_ ?_
        rotate_left
        · show Act.put _ (some 8) _ = _
          simp only [Act.put, List.setIfInBounds_toArray, List.set_cons_zero, List.set_cons_succ, i64_w, i32_w]
          rfl
        refine one_ (i := 5) (N := some 11) #[true, true, true, true, true, true, true, false] rfl rfl (by kernel_rfl) (by decide) (fun K hK => ?_)
        refine goes_ Try.func19 (by kernel_rfl) rfl #[.agg #[.int .i64 2, .int .i64 0], .agg #[.int .u64 0, .int .i64 0, .slice A3 0 c3], .agg #[.int .i64 0, .slice none 0 0, .slice A9 1 c9], .int .u64 2] (by rfl) rfl rfl (by simp only [List.map_toArray, List.map_cons, List.map_nil]; rfl) ?_
        with_reducible refine (addNum 0 0 3 2 2 6 [] A3 A9 c3 c9 _ HL.out HLc.out aw1).mono ?_
        rintro e w5 ⟨v5, rfl, ho5, hb5⟩
        refine ⟨_, rfl, ?_⟩
        obtain ⟨A5, c5, rfl⟩ := reads0 ho5
        replace HB := Aside0.mk (below_then HB.out HB.out.size hb5)
        replace BK := Aside0.mk (cells_below BK.out hb5)
        try replace hbox := Aside0.mk (cells_below hbox.out hb5)
        clear ho5
        refine hK.out _ _ ⟨(pw_cell_below hb5 hHeld.1), (pw_cell_below hb5 hHeld.2)⟩ (fun hHeld => ?_)
        clear hK K
        refine norm_ (a' := ?_) ?_ ?_
        rotate_left
        · show Act.put _ (some 11) _ = _
          simp only [Act.put, List.setIfInBounds_toArray, List.set_cons_zero, List.set_cons_succ, i64_w, i32_w]
          rfl
        refine last_ (i := 7) (N := none) #[true, true, true, true, true, true, true, true] rfl rfl (by kernel_rfl) (by decide) (fun K hK => ?_)
        (have hq_0 := (blk_cell hbox.out 0).trans (show (#[(.int .u64 0 : Value), (.int .i64 0 : Value), (.slice none 0 0 : Value)] : Array Value)[0]? = some (.int .u64 0) from rfl); have hqf_0 := blk_frozen hbox.out 0; have hq_1 := (blk_cell hbox.out 1).trans (show (#[(.int .u64 0 : Value), (.int .i64 0 : Value), (.slice none 0 0 : Value)] : Array Value)[1]? = some (.int .i64 0) from rfl); have hqf_1 := blk_frozen hbox.out 1; have hq_2 := (blk_cell hbox.out 2).trans (show (#[(.int .u64 0 : Value), (.int .i64 0 : Value), (.slice none 0 0 : Value)] : Array Value)[2]? = some (.slice none 0 0) from rfl); have hqf_2 := blk_frozen hbox.out 2)
        refine skip_ (w1 := ?_) (by rfl) rfl ?_ ?_
        rotate_left
        · go_simp
          rfl
        refine hK.out _ _ ?_
        clear hK K
        refine done_ (by kernel_rfl) ?_
        go_wp2_with fail
        go_meet
        exact ⟨g2, _, _, rfl, rfl, ⟨blk_far (blk_far (blk_far BK.out hne _) hne _) hne _⟩, ⟨blk_set (blk_set (blk_set hbox.out 0 _) 1 _) 2 _⟩, HG2, ⟨below_set (below_set (below_set HB.out HG2.out) HG2.out) HG2.out⟩⟩
  case rest =>
    obtain ⟨g2, A2, c2, rfl, rfl, BK1, BK2, HG2, HB⟩ := hcut
    (have hq1_0 := (blk_cell BK1.out 0).trans (show (#[(.int .i64 2 : Value), (.int .i64 0 : Value)] : Array Value)[0]? = some (.int .i64 2) from rfl); have hqf1_0 := blk_frozen BK1.out 0; have hq1_1 := (blk_cell BK1.out 1).trans (show (#[(.int .i64 2 : Value), (.int .i64 0 : Value)] : Array Value)[1]? = some (.int .i64 0) from rfl); have hqf1_1 := blk_frozen BK1.out 1)
    (have hq2_0 := (blk_cell BK2.out 0).trans (show (#[(.int .u64 2 : Value), (.int .i64 6 : Value), (.slice A2 0 c2 : Value)] : Array Value)[0]? = some (.int .u64 2) from rfl); have hqf2_0 := blk_frozen BK2.out 0; have hq2_1 := (blk_cell BK2.out 1).trans (show (#[(.int .u64 2 : Value), (.int .i64 6 : Value), (.slice A2 0 c2 : Value)] : Array Value)[1]? = some (.int .i64 6) from rfl); have hqf2_1 := blk_frozen BK2.out 1; have hq2_2 := (blk_cell BK2.out 2).trans (show (#[(.int .u64 2 : Value), (.int .i64 6 : Value), (.slice A2 0 c2 : Value)] : Array Value)[2]? = some (.slice A2 0 c2) from rfl); have hqf2_2 := blk_frozen BK2.out 2)
    go_wp2_with (first
      | ((with_reducible refine gate_dst (N := 14) rfl ?_); refine lit1_event (Kd.int .i64) 2 (by rfl) (N := 14) (by rfl) (x := -1) (v := .int .i64 (-1)) ?hr (Reps.one (show Kd.M (Kd.int .i64) _ _ _ (-1) [.int .i64 (-1)] from rfl) (Reps.none _ _)) ?_; (case hr => first | (go_simp; done) | (go_simp; rfl)); intro A9 c9 w9 hC9 hc9 hb9; replace BK1 := Aside0.mk (cells_below BK1.out hb9); replace BK2 := Aside0.mk (cells_below BK2.out hb9); replace HB := Aside0.mk (below_then HB.out HB.out.size hb9); have HL := Aside0.mk hC9; have HLc := Aside0.mk hc9; clear hC9 hc9 hb9)
      | (go_at_call 19; refine (addNum 2 6 (-1) 1 3 5 [] A2 A9 c2 c9 _ HL.out HLc.out aw2).mono ?_; rintro e w5 ⟨v5, rfl, ho5, hb5⟩; obtain ⟨A5, c5, rfl⟩ := reads0 ho5; replace BK1 := Aside0.mk (cells_below BK1.out hb5); replace BK2 := Aside0.mk (cells_below BK2.out hb5); replace HB := Aside0.mk (below_then HB.out HB.out.size hb5); (have hq2_0 := (blk_cell BK2.out 0).trans (show (#[(.int .u64 2 : Value), (.int .i64 6 : Value), (.slice A2 0 c2 : Value)] : Array Value)[0]? = some (.int .u64 2) from rfl); have hqf2_0 := blk_frozen BK2.out 0; have hq2_1 := (blk_cell BK2.out 1).trans (show (#[(.int .u64 2 : Value), (.int .i64 6 : Value), (.slice A2 0 c2 : Value)] : Array Value)[1]? = some (.int .i64 6) from rfl); have hqf2_1 := blk_frozen BK2.out 1; have hq2_2 := (blk_cell BK2.out 2).trans (show (#[(.int .u64 2 : Value), (.int .i64 6 : Value), (.slice A2 0 c2 : Value)] : Array Value)[2]? = some (.slice A2 0 c2) from rfl); have hqf2_2 := blk_frozen BK2.out 2); clear ho5 hb5)
      | fail)
    have hn12 := blk_ne BK1.out BK2.out (by decide)
    have e0 : ((((w5.setCell ⟨g2, 0, none⟩ (.int .u64 3)).setCell ⟨g2, 1, none⟩ (.int .i64 5)).setCell ⟨g2, 2, none⟩ (.slice A5 0 c5))).heap.size = w5.heap.size := by simp
    have hba := below_alloc (Below.refl _ (((w5.setCell ⟨g2, 0, none⟩ (.int .u64 3)).setCell ⟨g2, 1, none⟩ (.int .i64 5)).setCell ⟨g2, 2, none⟩ (.slice A5 0 c5))) (.cells #[.int .i64 5, .int .i64 0] 23)
    have BK2n := Aside0.mk (blk_below (blk_set (blk_set (blk_set BK2.out 0 (.int .u64 3)) 1 (.int .i64 5)) 2 (.slice A5 0 c5)) hba)
    have BK1n := Aside0.mk (blk_below (blk_far (p := ⟨g2, 2, none⟩) (blk_far (p := ⟨g2, 1, none⟩) (blk_far (p := ⟨g2, 0, none⟩) BK1.out hn12 (.int .u64 3)) hn12 (.int .i64 5)) hn12 (.slice A5 0 c5)) hba)
    have BK3n := Aside0.mk (heap_alloc_new (((w5.setCell ⟨g2, 0, none⟩ (.int .u64 3)).setCell ⟨g2, 1, none⟩ (.int .i64 5)).setCell ⟨g2, 2, none⟩ (.slice A5 0 c5)) (.cells #[.int .i64 5, .int .i64 0] 23))
    have HBn := Aside0.mk (below_alloc' (below_set (j := 2) (v := .slice A5 0 c5) (below_set (j := 1) (v := .int .i64 5) (below_set (j := 0) (v := .int .u64 3) HB.out HG2.out) HG2.out) HG2.out) (.cells #[.int .i64 5, .int .i64 0] 23))
    rw [e0] at BK3n
    have HG3 := Aside0.mk (show w.heap.size ≤ w5.heap.size from HB.out.size)
    clear hba e0 BK1 BK2 HB
    obtain ⟨g3, hg3⟩ : ∃ g3, w5.heap.size = g3 := ⟨_, rfl⟩
    rw [hg3] at BK3n HG3 ⊢
    clear hg3
    generalize ((((w5.setCell ⟨g2, 0, none⟩ (.int .u64 3)).setCell ⟨g2, 1, none⟩ (.int .i64 5)).setCell ⟨g2, 2, none⟩ (.slice A5 0 c5))).alloc (.cells #[.int .i64 5, .int .i64 0] 23) = wb at *
    have c0 : wb.cell? ⟨g3, 0, none⟩ = some (.int .i64 5) := (blk_cell BK3n.out 0).trans rfl
    have c1 : wb.cell? ⟨g3, 1, none⟩ = some (.int .i64 0) := (blk_cell BK3n.out 1).trans rfl
    have HB := Aside0.mk (below_drew HBn.out)
    have BK1 := Aside0.mk (blk_drew BK1n.out)
    have BK2 := Aside0.mk (blk_drew BK2n.out)
    have BK3 := Aside0.mk (blk_drew BK3n.out)
    have HT := Aside0.mk (show ∀ q, q ∈ 9 :: Kd.string.E → q ≠ 33 by decide)
    clear HL HLc BK1n BK2n BK3n HBn
    go_cut [4] (fun s4 wx => ∃ (g4 : Nat) (A4 : Option Addr) (c4 : Nat), s4 = .pointer (some ⟨g4, 0, none⟩) ∧ Aside0 (wx.heap[g1]? = some (.cells #[.int .i64 2, .int .i64 0] 23 (0, 0))) ∧ Aside0 (wx.heap[g2]? = some (.cells #[.int .u64 3, .int .i64 5, .slice A5 0 c5] 33 (0, 0))) ∧ Aside0 (wx.heap[g3]? = some (.cells #[.int .i64 5, .int .i64 0] 23 (0, 0))) ∧ Aside0 (wx.heap[g4]? = some (.cells #[.int .u64 1, .int .i64 0, .slice A4 1 c4] 33 (0, 0))) ∧ Aside0 (Kd.C Kd.string wx A4 1 [strB]) ∧ Aside0 (1 ≤ c4) ∧ Aside0 (g2 ≠ g4) ∧ Aside0 (w.heap.size ≤ g4) ∧ Aside0 (Below w.heap.size w wx))
    case first =>
      have HL := Aside0.mk trivial
      refine start_ (n := 8) (S := fun w' => w'.cell? ⟨g3, 0, none⟩ = some (.int .i64 5) ∧ w'.cell? ⟨g3, 1, none⟩ = some (.int .i64 0)) (ds := [7]) #[false, false, false, false, false, false, false, false] (by kernel_rfl) rfl rfl ⟨c0, c1⟩ (fun hHeld => ?_)
      refine take_ (i := 0) (N := some 18) (v := ?_) (a' := ?_) #[true, false, false, false, false, false, false, false] rfl rfl (by kernel_rfl) (fun _ _ _ h => h) (Or.inl ⟨by rfl, ?_⟩) hHeld ?_ ?_
      rotate_left
      · rintro w' ⟨s0, s1⟩
        go_simp
        with_reducible rfl
      rotate_left
      · simp only [Act.put, List.setIfInBounds_toArray, List.set_cons_zero, List.set_cons_succ, i64_w, i32_w]
        rfl
      refine take_ (i := 1) (N := some 19) (v := ?_) (a' := ?_) #[true, true, false, false, false, false, false, false] rfl rfl (by kernel_rfl) (fun _ _ _ h => h) (Or.inl ⟨by rfl, ?_⟩) hHeld ?_ ?_
      rotate_left
      · rintro w' ⟨s0, s1⟩
        go_simp
        with_reducible rfl
      rotate_left
      · simp only [Act.put, List.setIfInBounds_toArray, List.set_cons_zero, List.set_cons_succ, i64_w, i32_w]
        rfl
      refine three_ (i := 2) (j := 3) (k := 6) (Ni := some 20) (Nj := some 21) (Nk := some 4) #[true, true, true, false, false, false, false, false] #[true, true, false, true, false, false, false, false] #[true, true, false, false, false, false, true, false] rfl rfl rfl rfl rfl rfl (by kernel_rfl) (by decide) (by decide) (by decide) (fun K hK => ?_) (fun K hK => ?_) (fun K hK => ?_)
      · skip
        refine goes_ Try.func18 (by kernel_rfl) rfl #[.agg #[.int .i64 5, .int .i64 0]] (by rfl) rfl rfl (by simp only [List.map_toArray, List.map_cons, List.map_nil]; rfl) ?_
        with_reducible refine (start0 5 0 _).mono ?_
        rintro e w3 ⟨A3, c3, rfl, hb3⟩
        refine ⟨_, rfl, ?_⟩
        replace HB := Aside0.mk (below_then HB.out HB.out.size hb3)
        replace BK1 := Aside0.mk (cells_below BK1.out hb3)
        replace BK2 := Aside0.mk (cells_below BK2.out hb3)
        replace BK3 := Aside0.mk (cells_below BK3.out hb3)
        try replace HL := Aside0.mk (Kd.C_below HL.out hb3)
        try replace hbox := Aside0.mk (cells_below hbox.out hb3)
        refine hK.out _ _ ⟨(pw_cell_below hb3 hHeld.1), (pw_cell_below hb3 hHeld.2)⟩ (fun hHeld => ?_)
        clear hK K
        refine norm_ (a' := ?_) ?_ ?_
        rotate_left
        · show Act.put _ (some 20) _ = _
          simp only [Act.put, List.setIfInBounds_toArray, List.set_cons_zero, List.set_cons_succ, i64_w, i32_w]
          rfl
        refine two_ (i := 3) (j := 6) (Ni := some 21) (Nj := some 4) #[true, true, true, true, false, false, false, false] #[true, true, true, false, false, false, true, false] rfl rfl rfl rfl (by kernel_rfl) (by decide) (by decide) (fun K hK => ?_) (fun K hK => ?_)
        · skip
          refine lit1_step Kd.string 9 (by rfl) (N := 21) (by rfl) (x := strB) (v := .string strB) ?hr (Reps.one (show Kd.M Kd.string _ _ _ strB [.string strB] from rfl) (Reps.none _ _)) ?_
          case hr => first | (go_simp; done) | (go_simp; rfl)
          intro A9 c9 w9 hC9 hc9 hb9
          replace HB := Aside0.mk (below_then HB.out HB.out.size hb9)
          replace BK1 := Aside0.mk (cells_below BK1.out hb9)
          replace BK2 := Aside0.mk (cells_below BK2.out hb9)
          replace BK3 := Aside0.mk (cells_below BK3.out hb9)
          replace HL := Aside0.mk hC9
          try replace hbox := Aside0.mk (cells_below hbox.out hb9)
          have HLc := Aside0.mk hc9
          clear hC9 hc9
          refine hK.out _ _ ⟨(pw_cell_below hb9 hHeld.1), (pw_cell_below hb9 hHeld.2)⟩ (fun hHeld => ?_)
          clear hK K
          refine norm_ (a' := ?_) ?_ ?_
          rotate_left
          · show Act.put _ (some 21) _ = _
            simp only [Act.put, List.setIfInBounds_toArray, List.set_cons_zero, List.set_cons_succ, i64_w, i32_w]
            rfl
          refine pure_ (i := 4) (N := some 22) (v := ?_) (a' := ?_) #[true, true, true, true, true, false, false, false] rfl rfl (by kernel_rfl) (fun _ _ _ h => h) (Or.inl ⟨by rfl, ?_⟩) ?_ ?_
          rotate_left
          · intro w'
            go_simp
            with_reducible rfl
          rotate_left
          · simp only [Act.put, List.setIfInBounds_toArray, List.set_cons_zero, List.set_cons_succ, i64_w, i32_w]
            rfl
          refine two_ (i := 5) (j := 6) (Ni := some 23) (Nj := some 4) #[true, true, true, true, true, true, false, false] #[true, true, true, true, true, false, true, false] rfl rfl rfl rfl (by kernel_rfl) (by decide) (by decide) (fun K hK => ?_) (fun K hK => ?_)
          · skip
            refine goes_ Try.func19 (by kernel_rfl) rfl #[.agg #[.int .i64 5, .int .i64 0], .agg #[.int .u64 0, .int .i64 0, .slice A3 0 c3], .agg #[.int .i64 0, .slice A9 1 c9, .slice none 0 0], .int .u64 1] (by rfl) rfl rfl (by simp only [List.map_toArray, List.map_cons, List.map_nil]; rfl) ?_
            with_reducible refine (addText strB 1 1 0 [strB] A3 A9 c3 c9 _ HL.out HLc.out aw3).mono ?_
            rintro e w5 ⟨v5, rfl, ho5, hb5⟩
            refine ⟨_, rfl, ?_⟩
            obtain ⟨A5, c5, rfl, hc5, hC5⟩ := reads1 ho5
            replace HB := Aside0.mk (below_then HB.out HB.out.size hb5)
            replace BK1 := Aside0.mk (cells_below BK1.out hb5)
            replace BK2 := Aside0.mk (cells_below BK2.out hb5)
            replace BK3 := Aside0.mk (cells_below BK3.out hb5)
            try replace hbox := Aside0.mk (cells_below hbox.out hb5)
            have HR5 := Aside0.mk ho5
            have HRc := Aside0.mk hc5
            clear ho5 hc5 hC5
            refine hK.out _ _ ⟨(pw_cell_below hb5 hHeld.1), (pw_cell_below hb5 hHeld.2)⟩ (fun hHeld => ?_)
            clear hK K
            refine norm_ (a' := ?_) ?_ ?_
            rotate_left
            · show Act.put _ (some 23) _ = _
              simp only [Act.put, List.setIfInBounds_toArray, List.set_cons_zero, List.set_cons_succ, i64_w, i32_w]
              rfl
            refine one_ (i := 6) (N := some 4) #[true, true, true, true, true, true, true, false] rfl rfl (by kernel_rfl) (by decide) (fun K hK => ?_)
            refine box_step (by rfl) (N := 4) (by rfl) (cs := #[.int .u64 0, .int .i64 0, .slice none 0 0]) (t := 33) ?hr ?_
            case hr => first | (go_simp; done) | (go_simp; rfl)
            intro g4 hg w6 hbox hb6
            have HG4 := Aside0.mk (show w.heap.size ≤ g4 by rw [hg]; exact HB.out.size)
            have hn14 : g1 ≠ g4 := (by have h1 := blk_lt BK1.out; rw [hg]; omega)
            have hn24 : g2 ≠ g4 := (by have h1 := blk_lt BK2.out; rw [hg]; omega)
            have hn34 : g3 ≠ g4 := (by have h1 := blk_lt BK3.out; rw [hg]; omega)
            replace HB := Aside0.mk (below_then HB.out HB.out.size hb6)
            replace BK1 := Aside0.mk (cells_below BK1.out hb6)
            replace BK2 := Aside0.mk (cells_below BK2.out hb6)
            replace BK3 := Aside0.mk (cells_below BK3.out hb6)
            try replace HL := Aside0.mk (Kd.C_below HL.out hb6)
            try replace HR5 := Aside0.mk (Kd.R_below HR5.out hb6)
            replace hbox := Aside0.mk hbox
            clear hg
            refine hK.out _ _ ⟨(pw_cell_below hb6 hHeld.1), (pw_cell_below hb6 hHeld.2)⟩ (fun hHeld => ?_)
            clear hK K
            refine norm_ (a' := ?_) ?_ ?_
            rotate_left
            · show Act.put _ (some 4) _ = _
              simp only [Act.put, List.setIfInBounds_toArray, List.set_cons_zero, List.set_cons_succ, i64_w, i32_w]
              rfl
            refine last_ (i := 7) (N := none) #[true, true, true, true, true, true, true, true] rfl rfl (by kernel_rfl) (by decide) (fun K hK => ?_)
            (have hq_0 := (blk_cell hbox.out 0).trans (show (#[(.int .u64 0 : Value), (.int .i64 0 : Value), (.slice none 0 0 : Value)] : Array Value)[0]? = some (.int .u64 0) from rfl); have hqf_0 := blk_frozen hbox.out 0; have hq_1 := (blk_cell hbox.out 1).trans (show (#[(.int .u64 0 : Value), (.int .i64 0 : Value), (.slice none 0 0 : Value)] : Array Value)[1]? = some (.int .i64 0) from rfl); have hqf_1 := blk_frozen hbox.out 1; have hq_2 := (blk_cell hbox.out 2).trans (show (#[(.int .u64 0 : Value), (.int .i64 0 : Value), (.slice none 0 0 : Value)] : Array Value)[2]? = some (.slice none 0 0) from rfl); have hqf_2 := blk_frozen hbox.out 2)
            refine skip_ (w1 := ?_) (by rfl) rfl ?_ ?_
            rotate_left
            · go_simp
              rfl
            refine hK.out _ _ ?_
            clear hK K
            refine done_ (by kernel_rfl) ?_
            go_wp2_with fail
            go_meet
            have b1 := blk_set hbox.out 0 (.int .u64 1)
            have b2 := blk_set b1 1 (.int .i64 0)
            have b3 := blk_set b2 2 (.slice A5 1 c5)
            have r1 := Kd.R_set (Kd.R_set (Kd.R_set HR5.out hbox.out HT.out 0 (.int .u64 1)) b1 HT.out 1 (.int .i64 0)) b2 HT.out 2 (.slice A5 1 c5)
            exact ⟨g4, A5, c5, rfl, ⟨blk_far (blk_far (blk_far BK1.out hn14 _) hn14 _) hn14 _⟩, ⟨blk_far (blk_far (blk_far BK2.out hn24 _) hn24 _) hn24 _⟩, ⟨blk_far (blk_far (blk_far BK3.out hn34 _) hn34 _) hn34 _⟩, ⟨b3⟩, ⟨(reads1' r1).2⟩, HRc, ⟨hn24⟩, HG4, ⟨below_set (below_set (below_set HB.out HG4.out) HG4.out) HG4.out⟩⟩
          · skip
            refine box_step (by rfl) (N := 4) (by rfl) (cs := #[.int .u64 0, .int .i64 0, .slice none 0 0]) (t := 33) ?hr ?_
            case hr => first | (go_simp; done) | (go_simp; rfl)
            intro g4 hg w6 hbox hb6
            have HG4 := Aside0.mk (show w.heap.size ≤ g4 by rw [hg]; exact HB.out.size)
            have hn14 : g1 ≠ g4 := (by have h1 := blk_lt BK1.out; rw [hg]; omega)
            have hn24 : g2 ≠ g4 := (by have h1 := blk_lt BK2.out; rw [hg]; omega)
            have hn34 : g3 ≠ g4 := (by have h1 := blk_lt BK3.out; rw [hg]; omega)
            replace HB := Aside0.mk (below_then HB.out HB.out.size hb6)
            replace BK1 := Aside0.mk (cells_below BK1.out hb6)
            replace BK2 := Aside0.mk (cells_below BK2.out hb6)
            replace BK3 := Aside0.mk (cells_below BK3.out hb6)
            try replace HL := Aside0.mk (Kd.C_below HL.out hb6)
            try replace HR5 := Aside0.mk (Kd.R_below HR5.out hb6)
            replace hbox := Aside0.mk hbox
            clear hg
            refine hK.out _ _ ⟨(pw_cell_below hb6 hHeld.1), (pw_cell_below hb6 hHeld.2)⟩ (fun hHeld => ?_)
            clear hK K
            refine norm_ (a' := ?_) ?_ ?_
            rotate_left
            · show Act.put _ (some 4) _ = _
              simp only [Act.put, List.setIfInBounds_toArray, List.set_cons_zero, List.set_cons_succ, i64_w, i32_w]
              rfl
            refine one_ (i := 5) (N := some 23) #[true, true, true, true, true, true, true, false] rfl rfl (by kernel_rfl) (by decide) (fun K hK => ?_)
            refine goes_ Try.func19 (by kernel_rfl) rfl #[.agg #[.int .i64 5, .int .i64 0], .agg #[.int .u64 0, .int .i64 0, .slice A3 0 c3], .agg #[.int .i64 0, .slice A9 1 c9, .slice none 0 0], .int .u64 1] (by rfl) rfl rfl (by simp only [List.map_toArray, List.map_cons, List.map_nil]; rfl) ?_
            with_reducible refine (addText strB 1 1 0 [strB] A3 A9 c3 c9 _ HL.out HLc.out aw3).mono ?_
            rintro e w5 ⟨v5, rfl, ho5, hb5⟩
            refine ⟨_, rfl, ?_⟩
            obtain ⟨A5, c5, rfl, hc5, hC5⟩ := reads1 ho5
            replace HB := Aside0.mk (below_then HB.out HB.out.size hb5)
            replace BK1 := Aside0.mk (cells_below BK1.out hb5)
            replace BK2 := Aside0.mk (cells_below BK2.out hb5)
            replace BK3 := Aside0.mk (cells_below BK3.out hb5)
            try replace hbox := Aside0.mk (cells_below hbox.out hb5)
            have HR5 := Aside0.mk ho5
            have HRc := Aside0.mk hc5
            clear ho5 hc5 hC5
            refine hK.out _ _ ⟨(pw_cell_below hb5 hHeld.1), (pw_cell_below hb5 hHeld.2)⟩ (fun hHeld => ?_)
            clear hK K
            refine norm_ (a' := ?_) ?_ ?_
            rotate_left
            · show Act.put _ (some 23) _ = _
              simp only [Act.put, List.setIfInBounds_toArray, List.set_cons_zero, List.set_cons_succ, i64_w, i32_w]
              rfl
            refine last_ (i := 7) (N := none) #[true, true, true, true, true, true, true, true] rfl rfl (by kernel_rfl) (by decide) (fun K hK => ?_)
            (have hq_0 := (blk_cell hbox.out 0).trans (show (#[(.int .u64 0 : Value), (.int .i64 0 : Value), (.slice none 0 0 : Value)] : Array Value)[0]? = some (.int .u64 0) from rfl); have hqf_0 := blk_frozen hbox.out 0; have hq_1 := (blk_cell hbox.out 1).trans (show (#[(.int .u64 0 : Value), (.int .i64 0 : Value), (.slice none 0 0 : Value)] : Array Value)[1]? = some (.int .i64 0) from rfl); have hqf_1 := blk_frozen hbox.out 1; have hq_2 := (blk_cell hbox.out 2).trans (show (#[(.int .u64 0 : Value), (.int .i64 0 : Value), (.slice none 0 0 : Value)] : Array Value)[2]? = some (.slice none 0 0) from rfl); have hqf_2 := blk_frozen hbox.out 2)
            refine skip_ (w1 := ?_) (by rfl) rfl ?_ ?_
            rotate_left
            · go_simp
              rfl
            refine hK.out _ _ ?_
            clear hK K
            refine done_ (by kernel_rfl) ?_
            go_wp2_with fail
            go_meet
            have b1 := blk_set hbox.out 0 (.int .u64 1)
            have b2 := blk_set b1 1 (.int .i64 0)
            have b3 := blk_set b2 2 (.slice A5 1 c5)
            have r1 := Kd.R_set (Kd.R_set (Kd.R_set HR5.out hbox.out HT.out 0 (.int .u64 1)) b1 HT.out 1 (.int .i64 0)) b2 HT.out 2 (.slice A5 1 c5)
            exact ⟨g4, A5, c5, rfl, ⟨blk_far (blk_far (blk_far BK1.out hn14 _) hn14 _) hn14 _⟩, ⟨blk_far (blk_far (blk_far BK2.out hn24 _) hn24 _) hn24 _⟩, ⟨blk_far (blk_far (blk_far BK3.out hn34 _) hn34 _) hn34 _⟩, ⟨b3⟩, ⟨(reads1' r1).2⟩, HRc, ⟨hn24⟩, HG4, ⟨below_set (below_set (below_set HB.out HG4.out) HG4.out) HG4.out⟩⟩
        · skip
          refine box_step (by rfl) (N := 4) (by rfl) (cs := #[.int .u64 0, .int .i64 0, .slice none 0 0]) (t := 33) ?hr ?_
          case hr => first | (go_simp; done) | (go_simp; rfl)
          intro g4 hg w6 hbox hb6
          have HG4 := Aside0.mk (show w.heap.size ≤ g4 by rw [hg]; exact HB.out.size)
          have hn14 : g1 ≠ g4 := (by have h1 := blk_lt BK1.out; rw [hg]; omega)
          have hn24 : g2 ≠ g4 := (by have h1 := blk_lt BK2.out; rw [hg]; omega)
          have hn34 : g3 ≠ g4 := (by have h1 := blk_lt BK3.out; rw [hg]; omega)
          replace HB := Aside0.mk (below_then HB.out HB.out.size hb6)
          replace BK1 := Aside0.mk (cells_below BK1.out hb6)
          replace BK2 := Aside0.mk (cells_below BK2.out hb6)
          replace BK3 := Aside0.mk (cells_below BK3.out hb6)
          try replace HL := Aside0.mk (Kd.C_below HL.out hb6)
          try replace HR5 := Aside0.mk (Kd.R_below HR5.out hb6)
          replace hbox := Aside0.mk hbox
          clear hg
          refine hK.out _ _ ⟨(pw_cell_below hb6 hHeld.1), (pw_cell_below hb6 hHeld.2)⟩ (fun hHeld => ?_)
          clear hK K
          refine norm_ (a' := ?_) ?_ ?_
          rotate_left
          · show Act.put _ (some 4) _ = _
            simp only [Act.put, List.setIfInBounds_toArray, List.set_cons_zero, List.set_cons_succ, i64_w, i32_w]
            rfl
          refine one_ (i := 3) (N := some 21) #[true, true, true, true, false, false, true, false] rfl rfl (by kernel_rfl) (by decide) (fun K hK => ?_)
          refine lit1_step Kd.string 9 (by rfl) (N := 21) (by rfl) (x := strB) (v := .string strB) ?hr (Reps.one (show Kd.M Kd.string _ _ _ strB [.string strB] from rfl) (Reps.none _ _)) ?_
          case hr => first | (go_simp; done) | (go_simp; rfl)
          intro A9 c9 w9 hC9 hc9 hb9
          replace HB := Aside0.mk (below_then HB.out HB.out.size hb9)
          replace BK1 := Aside0.mk (cells_below BK1.out hb9)
          replace BK2 := Aside0.mk (cells_below BK2.out hb9)
          replace BK3 := Aside0.mk (cells_below BK3.out hb9)
          replace HL := Aside0.mk hC9
          try replace hbox := Aside0.mk (cells_below hbox.out hb9)
          have HLc := Aside0.mk hc9
          clear hC9 hc9
          refine hK.out _ _ ⟨(pw_cell_below hb9 hHeld.1), (pw_cell_below hb9 hHeld.2)⟩ (fun hHeld => ?_)
          clear hK K
          refine norm_ (a' := ?_) ?_ ?_
          rotate_left
          · show Act.put _ (some 21) _ = _
            simp only [Act.put, List.setIfInBounds_toArray, List.set_cons_zero, List.set_cons_succ, i64_w, i32_w]
            rfl
          refine pure_ (i := 4) (N := some 22) (v := ?_) (a' := ?_) #[true, true, true, true, true, false, true, false] rfl rfl (by kernel_rfl) (fun _ _ _ h => h) (Or.inl ⟨by rfl, ?_⟩) ?_ ?_
          rotate_left
          · intro w'
            go_simp
            with_reducible rfl
          rotate_left
          · simp only [Act.put, List.setIfInBounds_toArray, List.set_cons_zero, List.set_cons_succ, i64_w, i32_w]
            rfl
          refine one_ (i := 5) (N := some 23) #[true, true, true, true, true, true, true, false] rfl rfl (by kernel_rfl) (by decide) (fun K hK => ?_)
          refine goes_ Try.func19 (by kernel_rfl) rfl #[.agg #[.int .i64 5, .int .i64 0], .agg #[.int .u64 0, .int .i64 0, .slice A3 0 c3], .agg #[.int .i64 0, .slice A9 1 c9, .slice none 0 0], .int .u64 1] (by rfl) rfl rfl (by simp only [List.map_toArray, List.map_cons, List.map_nil]; rfl) ?_
          with_reducible refine (addText strB 1 1 0 [strB] A3 A9 c3 c9 _ HL.out HLc.out aw3).mono ?_
          rintro e w5 ⟨v5, rfl, ho5, hb5⟩
          refine ⟨_, rfl, ?_⟩
          obtain ⟨A5, c5, rfl, hc5, hC5⟩ := reads1 ho5
          replace HB := Aside0.mk (below_then HB.out HB.out.size hb5)
          replace BK1 := Aside0.mk (cells_below BK1.out hb5)
          replace BK2 := Aside0.mk (cells_below BK2.out hb5)
          replace BK3 := Aside0.mk (cells_below BK3.out hb5)
          try replace hbox := Aside0.mk (cells_below hbox.out hb5)
          have HR5 := Aside0.mk ho5
          have HRc := Aside0.mk hc5
          clear ho5 hc5 hC5
          refine hK.out _ _ ⟨(pw_cell_below hb5 hHeld.1), (pw_cell_below hb5 hHeld.2)⟩ (fun hHeld => ?_)
          clear hK K
          refine norm_ (a' := ?_) ?_ ?_
          rotate_left
          · show Act.put _ (some 23) _ = _
            simp only [Act.put, List.setIfInBounds_toArray, List.set_cons_zero, List.set_cons_succ, i64_w, i32_w]
            rfl
          refine last_ (i := 7) (N := none) #[true, true, true, true, true, true, true, true] rfl rfl (by kernel_rfl) (by decide) (fun K hK => ?_)
          (have hq_0 := (blk_cell hbox.out 0).trans (show (#[(.int .u64 0 : Value), (.int .i64 0 : Value), (.slice none 0 0 : Value)] : Array Value)[0]? = some (.int .u64 0) from rfl); have hqf_0 := blk_frozen hbox.out 0; have hq_1 := (blk_cell hbox.out 1).trans (show (#[(.int .u64 0 : Value), (.int .i64 0 : Value), (.slice none 0 0 : Value)] : Array Value)[1]? = some (.int .i64 0) from rfl); have hqf_1 := blk_frozen hbox.out 1; have hq_2 := (blk_cell hbox.out 2).trans (show (#[(.int .u64 0 : Value), (.int .i64 0 : Value), (.slice none 0 0 : Value)] : Array Value)[2]? = some (.slice none 0 0) from rfl); have hqf_2 := blk_frozen hbox.out 2)
          refine skip_ (w1 := ?_) (by rfl) rfl ?_ ?_
          rotate_left
          · go_simp
            rfl
          refine hK.out _ _ ?_
          clear hK K
          refine done_ (by kernel_rfl) ?_
          go_wp2_with fail
          go_meet
          have b1 := blk_set hbox.out 0 (.int .u64 1)
          have b2 := blk_set b1 1 (.int .i64 0)
          have b3 := blk_set b2 2 (.slice A5 1 c5)
          have r1 := Kd.R_set (Kd.R_set (Kd.R_set HR5.out hbox.out HT.out 0 (.int .u64 1)) b1 HT.out 1 (.int .i64 0)) b2 HT.out 2 (.slice A5 1 c5)
          exact ⟨g4, A5, c5, rfl, ⟨blk_far (blk_far (blk_far BK1.out hn14 _) hn14 _) hn14 _⟩, ⟨blk_far (blk_far (blk_far BK2.out hn24 _) hn24 _) hn24 _⟩, ⟨blk_far (blk_far (blk_far BK3.out hn34 _) hn34 _) hn34 _⟩, ⟨b3⟩, ⟨(reads1' r1).2⟩, HRc, ⟨hn24⟩, HG4, ⟨below_set (below_set (below_set HB.out HG4.out) HG4.out) HG4.out⟩⟩
      · skip
        refine lit1_step Kd.string 9 (by rfl) (N := 21) (by rfl) (x := strB) (v := .string strB) ?hr (Reps.one (show Kd.M Kd.string _ _ _ strB [.string strB] from rfl) (Reps.none _ _)) ?_
        case hr => first | (go_simp; done) | (go_simp; rfl)
        intro A9 c9 w9 hC9 hc9 hb9
        replace HB := Aside0.mk (below_then HB.out HB.out.size hb9)
        replace BK1 := Aside0.mk (cells_below BK1.out hb9)
        replace BK2 := Aside0.mk (cells_below BK2.out hb9)
        replace BK3 := Aside0.mk (cells_below BK3.out hb9)
        replace HL := Aside0.mk hC9
        try replace hbox := Aside0.mk (cells_below hbox.out hb9)
        have HLc := Aside0.mk hc9
        clear hC9 hc9
        refine hK.out _ _ ⟨(pw_cell_below hb9 hHeld.1), (pw_cell_below hb9 hHeld.2)⟩ (fun hHeld => ?_)
        clear hK K
        refine norm_ (a' := ?_) ?_ ?_
        rotate_left
        · show Act.put _ (some 21) _ = _
          simp only [Act.put, List.setIfInBounds_toArray, List.set_cons_zero, List.set_cons_succ, i64_w, i32_w]
          rfl
        refine pure_ (i := 4) (N := some 22) (v := ?_) (a' := ?_) #[true, true, false, true, true, false, false, false] rfl rfl (by kernel_rfl) (fun _ _ _ h => h) (Or.inl ⟨by rfl, ?_⟩) ?_ ?_
        rotate_left
        · intro w'
          go_simp
          with_reducible rfl
        rotate_left
        · simp only [Act.put, List.setIfInBounds_toArray, List.set_cons_zero, List.set_cons_succ, i64_w, i32_w]
          rfl
        refine two_ (i := 2) (j := 6) (Ni := some 20) (Nj := some 4) #[true, true, true, true, true, false, false, false] #[true, true, false, true, true, false, true, false] rfl rfl rfl rfl (by kernel_rfl) (by decide) (by decide) (fun K hK => ?_) (fun K hK => ?_)
        · skip
          refine goes_ Try.func18 (by kernel_rfl) rfl #[.agg #[.int .i64 5, .int .i64 0]] (by rfl) rfl rfl (by simp only [List.map_toArray, List.map_cons, List.map_nil]; rfl) ?_
          with_reducible refine (start0 5 0 _).mono ?_
          rintro e w3 ⟨A3, c3, rfl, hb3⟩
          refine ⟨_, rfl, ?_⟩
          replace HB := Aside0.mk (below_then HB.out HB.out.size hb3)
          replace BK1 := Aside0.mk (cells_below BK1.out hb3)
          replace BK2 := Aside0.mk (cells_below BK2.out hb3)
          replace BK3 := Aside0.mk (cells_below BK3.out hb3)
          try replace HL := Aside0.mk (Kd.C_below HL.out hb3)
          try replace hbox := Aside0.mk (cells_below hbox.out hb3)
          refine hK.out _ _ ⟨(pw_cell_below hb3 hHeld.1), (pw_cell_below hb3 hHeld.2)⟩ (fun hHeld => ?_)
          clear hK K
          refine norm_ (a' := ?_) ?_ ?_
          rotate_left
          · show Act.put _ (some 20) _ = _
            simp only [Act.put, List.setIfInBounds_toArray, List.set_cons_zero, List.set_cons_succ, i64_w, i32_w]
            rfl
          refine two_ (i := 5) (j := 6) (Ni := some 23) (Nj := some 4) #[true, true, true, true, true, true, false, false] #[true, true, true, true, true, false, true, false] rfl rfl rfl rfl (by kernel_rfl) (by decide) (by decide) (fun K hK => ?_) (fun K hK => ?_)
          · skip
            refine goes_ Try.func19 (by kernel_rfl) rfl #[.agg #[.int .i64 5, .int .i64 0], .agg #[.int .u64 0, .int .i64 0, .slice A3 0 c3], .agg #[.int .i64 0, .slice A9 1 c9, .slice none 0 0], .int .u64 1] (by rfl) rfl rfl (by simp only [List.map_toArray, List.map_cons, List.map_nil]; rfl) ?_
            with_reducible refine (addText strB 1 1 0 [strB] A3 A9 c3 c9 _ HL.out HLc.out aw3).mono ?_
            rintro e w5 ⟨v5, rfl, ho5, hb5⟩
            refine ⟨_, rfl, ?_⟩
            obtain ⟨A5, c5, rfl, hc5, hC5⟩ := reads1 ho5
            replace HB := Aside0.mk (below_then HB.out HB.out.size hb5)
            replace BK1 := Aside0.mk (cells_below BK1.out hb5)
            replace BK2 := Aside0.mk (cells_below BK2.out hb5)
            replace BK3 := Aside0.mk (cells_below BK3.out hb5)
            try replace hbox := Aside0.mk (cells_below hbox.out hb5)
            have HR5 := Aside0.mk ho5
            have HRc := Aside0.mk hc5
            clear ho5 hc5 hC5
            refine hK.out _ _ ⟨(pw_cell_below hb5 hHeld.1), (pw_cell_below hb5 hHeld.2)⟩ (fun hHeld => ?_)
            clear hK K
            refine norm_ (a' := ?_) ?_ ?_
            rotate_left
            · show Act.put _ (some 23) _ = _
              simp only [Act.put, List.setIfInBounds_toArray, List.set_cons_zero, List.set_cons_succ, i64_w, i32_w]
              rfl
            refine one_ (i := 6) (N := some 4) #[true, true, true, true, true, true, true, false] rfl rfl (by kernel_rfl) (by decide) (fun K hK => ?_)
            refine box_step (by rfl) (N := 4) (by rfl) (cs := #[.int .u64 0, .int .i64 0, .slice none 0 0]) (t := 33) ?hr ?_
            case hr => first | (go_simp; done) | (go_simp; rfl)
            intro g4 hg w6 hbox hb6
            have HG4 := Aside0.mk (show w.heap.size ≤ g4 by rw [hg]; exact HB.out.size)
            have hn14 : g1 ≠ g4 := (by have h1 := blk_lt BK1.out; rw [hg]; omega)
            have hn24 : g2 ≠ g4 := (by have h1 := blk_lt BK2.out; rw [hg]; omega)
            have hn34 : g3 ≠ g4 := (by have h1 := blk_lt BK3.out; rw [hg]; omega)
            replace HB := Aside0.mk (below_then HB.out HB.out.size hb6)
            replace BK1 := Aside0.mk (cells_below BK1.out hb6)
            replace BK2 := Aside0.mk (cells_below BK2.out hb6)
            replace BK3 := Aside0.mk (cells_below BK3.out hb6)
            try replace HL := Aside0.mk (Kd.C_below HL.out hb6)
            try replace HR5 := Aside0.mk (Kd.R_below HR5.out hb6)
            replace hbox := Aside0.mk hbox
            clear hg
            refine hK.out _ _ ⟨(pw_cell_below hb6 hHeld.1), (pw_cell_below hb6 hHeld.2)⟩ (fun hHeld => ?_)
            clear hK K
            refine norm_ (a' := ?_) ?_ ?_
            rotate_left
            · show Act.put _ (some 4) _ = _
              simp only [Act.put, List.setIfInBounds_toArray, List.set_cons_zero, List.set_cons_succ, i64_w, i32_w]
              rfl
            refine last_ (i := 7) (N := none) #[true, true, true, true, true, true, true, true] rfl rfl (by kernel_rfl) (by decide) (fun K hK => ?_)
            (have hq_0 := (blk_cell hbox.out 0).trans (show (#[(.int .u64 0 : Value), (.int .i64 0 : Value), (.slice none 0 0 : Value)] : Array Value)[0]? = some (.int .u64 0) from rfl); have hqf_0 := blk_frozen hbox.out 0; have hq_1 := (blk_cell hbox.out 1).trans (show (#[(.int .u64 0 : Value), (.int .i64 0 : Value), (.slice none 0 0 : Value)] : Array Value)[1]? = some (.int .i64 0) from rfl); have hqf_1 := blk_frozen hbox.out 1; have hq_2 := (blk_cell hbox.out 2).trans (show (#[(.int .u64 0 : Value), (.int .i64 0 : Value), (.slice none 0 0 : Value)] : Array Value)[2]? = some (.slice none 0 0) from rfl); have hqf_2 := blk_frozen hbox.out 2)
            refine skip_ (w1 := ?_) (by rfl) rfl ?_ ?_
            rotate_left
            · go_simp
              rfl
            refine hK.out _ _ ?_
            clear hK K
            refine done_ (by kernel_rfl) ?_
            go_wp2_with fail
            go_meet
            have b1 := blk_set hbox.out 0 (.int .u64 1)
            have b2 := blk_set b1 1 (.int .i64 0)
            have b3 := blk_set b2 2 (.slice A5 1 c5)
            have r1 := Kd.R_set (Kd.R_set (Kd.R_set HR5.out hbox.out HT.out 0 (.int .u64 1)) b1 HT.out 1 (.int .i64 0)) b2 HT.out 2 (.slice A5 1 c5)
            exact ⟨g4, A5, c5, rfl, ⟨blk_far (blk_far (blk_far BK1.out hn14 _) hn14 _) hn14 _⟩, ⟨blk_far (blk_far (blk_far BK2.out hn24 _) hn24 _) hn24 _⟩, ⟨blk_far (blk_far (blk_far BK3.out hn34 _) hn34 _) hn34 _⟩, ⟨b3⟩, ⟨(reads1' r1).2⟩, HRc, ⟨hn24⟩, HG4, ⟨below_set (below_set (below_set HB.out HG4.out) HG4.out) HG4.out⟩⟩
          · skip
            refine box_step (by rfl) (N := 4) (by rfl) (cs := #[.int .u64 0, .int .i64 0, .slice none 0 0]) (t := 33) ?hr ?_
            case hr => first | (go_simp; done) | (go_simp; rfl)
            intro g4 hg w6 hbox hb6
            have HG4 := Aside0.mk (show w.heap.size ≤ g4 by rw [hg]; exact HB.out.size)
            have hn14 : g1 ≠ g4 := (by have h1 := blk_lt BK1.out; rw [hg]; omega)
            have hn24 : g2 ≠ g4 := (by have h1 := blk_lt BK2.out; rw [hg]; omega)
            have hn34 : g3 ≠ g4 := (by have h1 := blk_lt BK3.out; rw [hg]; omega)
            replace HB := Aside0.mk (below_then HB.out HB.out.size hb6)
            replace BK1 := Aside0.mk (cells_below BK1.out hb6)
            replace BK2 := Aside0.mk (cells_below BK2.out hb6)
            replace BK3 := Aside0.mk (cells_below BK3.out hb6)
            try replace HL := Aside0.mk (Kd.C_below HL.out hb6)
            try replace HR5 := Aside0.mk (Kd.R_below HR5.out hb6)
            replace hbox := Aside0.mk hbox
            clear hg
            refine hK.out _ _ ⟨(pw_cell_below hb6 hHeld.1), (pw_cell_below hb6 hHeld.2)⟩ (fun hHeld => ?_)
            clear hK K
            refine norm_ (a' := ?_) ?_ ?_
            rotate_left
            · show Act.put _ (some 4) _ = _
              simp only [Act.put, List.setIfInBounds_toArray, List.set_cons_zero, List.set_cons_succ, i64_w, i32_w]
              rfl
            refine one_ (i := 5) (N := some 23) #[true, true, true, true, true, true, true, false] rfl rfl (by kernel_rfl) (by decide) (fun K hK => ?_)
            refine goes_ Try.func19 (by kernel_rfl) rfl #[.agg #[.int .i64 5, .int .i64 0], .agg #[.int .u64 0, .int .i64 0, .slice A3 0 c3], .agg #[.int .i64 0, .slice A9 1 c9, .slice none 0 0], .int .u64 1] (by rfl) rfl rfl (by simp only [List.map_toArray, List.map_cons, List.map_nil]; rfl) ?_
            with_reducible refine (addText strB 1 1 0 [strB] A3 A9 c3 c9 _ HL.out HLc.out aw3).mono ?_
            rintro e w5 ⟨v5, rfl, ho5, hb5⟩
            refine ⟨_, rfl, ?_⟩
            obtain ⟨A5, c5, rfl, hc5, hC5⟩ := reads1 ho5
            replace HB := Aside0.mk (below_then HB.out HB.out.size hb5)
            replace BK1 := Aside0.mk (cells_below BK1.out hb5)
            replace BK2 := Aside0.mk (cells_below BK2.out hb5)
            replace BK3 := Aside0.mk (cells_below BK3.out hb5)
            try replace hbox := Aside0.mk (cells_below hbox.out hb5)
            have HR5 := Aside0.mk ho5
            have HRc := Aside0.mk hc5
            clear ho5 hc5 hC5
            refine hK.out _ _ ⟨(pw_cell_below hb5 hHeld.1), (pw_cell_below hb5 hHeld.2)⟩ (fun hHeld => ?_)
            clear hK K
            refine norm_ (a' := ?_) ?_ ?_
            rotate_left
            · show Act.put _ (some 23) _ = _
              simp only [Act.put, List.setIfInBounds_toArray, List.set_cons_zero, List.set_cons_succ, i64_w, i32_w]
              rfl
            refine last_ (i := 7) (N := none) #[true, true, true, true, true, true, true, true] rfl rfl (by kernel_rfl) (by decide) (fun K hK => ?_)
            (have hq_0 := (blk_cell hbox.out 0).trans (show (#[(.int .u64 0 : Value), (.int .i64 0 : Value), (.slice none 0 0 : Value)] : Array Value)[0]? = some (.int .u64 0) from rfl); have hqf_0 := blk_frozen hbox.out 0; have hq_1 := (blk_cell hbox.out 1).trans (show (#[(.int .u64 0 : Value), (.int .i64 0 : Value), (.slice none 0 0 : Value)] : Array Value)[1]? = some (.int .i64 0) from rfl); have hqf_1 := blk_frozen hbox.out 1; have hq_2 := (blk_cell hbox.out 2).trans (show (#[(.int .u64 0 : Value), (.int .i64 0 : Value), (.slice none 0 0 : Value)] : Array Value)[2]? = some (.slice none 0 0) from rfl); have hqf_2 := blk_frozen hbox.out 2)
            refine skip_ (w1 := ?_) (by rfl) rfl ?_ ?_
            rotate_left
            · go_simp
              rfl
            refine hK.out _ _ ?_
            clear hK K
            refine done_ (by kernel_rfl) ?_
            go_wp2_with fail
            go_meet
            have b1 := blk_set hbox.out 0 (.int .u64 1)
            have b2 := blk_set b1 1 (.int .i64 0)
            have b3 := blk_set b2 2 (.slice A5 1 c5)
            have r1 := Kd.R_set (Kd.R_set (Kd.R_set HR5.out hbox.out HT.out 0 (.int .u64 1)) b1 HT.out 1 (.int .i64 0)) b2 HT.out 2 (.slice A5 1 c5)
            exact ⟨g4, A5, c5, rfl, ⟨blk_far (blk_far (blk_far BK1.out hn14 _) hn14 _) hn14 _⟩, ⟨blk_far (blk_far (blk_far BK2.out hn24 _) hn24 _) hn24 _⟩, ⟨blk_far (blk_far (blk_far BK3.out hn34 _) hn34 _) hn34 _⟩, ⟨b3⟩, ⟨(reads1' r1).2⟩, HRc, ⟨hn24⟩, HG4, ⟨below_set (below_set (below_set HB.out HG4.out) HG4.out) HG4.out⟩⟩
        · skip
          refine box_step (by rfl) (N := 4) (by rfl) (cs := #[.int .u64 0, .int .i64 0, .slice none 0 0]) (t := 33) ?hr ?_
          case hr => first | (go_simp; done) | (go_simp; rfl)
          intro g4 hg w6 hbox hb6
          have HG4 := Aside0.mk (show w.heap.size ≤ g4 by rw [hg]; exact HB.out.size)
          have hn14 : g1 ≠ g4 := (by have h1 := blk_lt BK1.out; rw [hg]; omega)
          have hn24 : g2 ≠ g4 := (by have h1 := blk_lt BK2.out; rw [hg]; omega)
          have hn34 : g3 ≠ g4 := (by have h1 := blk_lt BK3.out; rw [hg]; omega)
          replace HB := Aside0.mk (below_then HB.out HB.out.size hb6)
          replace BK1 := Aside0.mk (cells_below BK1.out hb6)
          replace BK2 := Aside0.mk (cells_below BK2.out hb6)
          replace BK3 := Aside0.mk (cells_below BK3.out hb6)
          try replace HL := Aside0.mk (Kd.C_below HL.out hb6)
          try replace HR5 := Aside0.mk (Kd.R_below HR5.out hb6)
          replace hbox := Aside0.mk hbox
          clear hg
          refine hK.out _ _ ⟨(pw_cell_below hb6 hHeld.1), (pw_cell_below hb6 hHeld.2)⟩ (fun hHeld => ?_)
          clear hK K
          refine norm_ (a' := ?_) ?_ ?_
          rotate_left
          · show Act.put _ (some 4) _ = _
            simp only [Act.put, List.setIfInBounds_toArray, List.set_cons_zero, List.set_cons_succ, i64_w, i32_w]
            rfl
          refine one_ (i := 2) (N := some 20) #[true, true, true, true, true, false, true, false] rfl rfl (by kernel_rfl) (by decide) (fun K hK => ?_)
          refine goes_ Try.func18 (by kernel_rfl) rfl #[.agg #[.int .i64 5, .int .i64 0]] (by rfl) rfl rfl (by simp only [List.map_toArray, List.map_cons, List.map_nil]; rfl) ?_
          with_reducible refine (start0 5 0 _).mono ?_
          rintro e w3 ⟨A3, c3, rfl, hb3⟩
          refine ⟨_, rfl, ?_⟩
          replace HB := Aside0.mk (below_then HB.out HB.out.size hb3)
          replace BK1 := Aside0.mk (cells_below BK1.out hb3)
          replace BK2 := Aside0.mk (cells_below BK2.out hb3)
          replace BK3 := Aside0.mk (cells_below BK3.out hb3)
          try replace HL := Aside0.mk (Kd.C_below HL.out hb3)
          try replace hbox := Aside0.mk (cells_below hbox.out hb3)
          refine hK.out _ _ ⟨(pw_cell_below hb3 hHeld.1), (pw_cell_below hb3 hHeld.2)⟩ (fun hHeld => ?_)
          clear hK K
          refine norm_ (a' := ?_) ?_ ?_
          rotate_left
          · show Act.put _ (some 20) _ = _
            simp only [Act.put, List.setIfInBounds_toArray, List.set_cons_zero, List.set_cons_succ, i64_w, i32_w]
            rfl
          refine one_ (i := 5) (N := some 23) #[true, true, true, true, true, true, true, false] rfl rfl (by kernel_rfl) (by decide) (fun K hK => ?_)
          refine goes_ Try.func19 (by kernel_rfl) rfl #[.agg #[.int .i64 5, .int .i64 0], .agg #[.int .u64 0, .int .i64 0, .slice A3 0 c3], .agg #[.int .i64 0, .slice A9 1 c9, .slice none 0 0], .int .u64 1] (by rfl) rfl rfl (by simp only [List.map_toArray, List.map_cons, List.map_nil]; rfl) ?_
          with_reducible refine (addText strB 1 1 0 [strB] A3 A9 c3 c9 _ HL.out HLc.out aw3).mono ?_
          rintro e w5 ⟨v5, rfl, ho5, hb5⟩
          refine ⟨_, rfl, ?_⟩
          obtain ⟨A5, c5, rfl, hc5, hC5⟩ := reads1 ho5
          replace HB := Aside0.mk (below_then HB.out HB.out.size hb5)
          replace BK1 := Aside0.mk (cells_below BK1.out hb5)
          replace BK2 := Aside0.mk (cells_below BK2.out hb5)
          replace BK3 := Aside0.mk (cells_below BK3.out hb5)
          try replace hbox := Aside0.mk (cells_below hbox.out hb5)
          have HR5 := Aside0.mk ho5
          have HRc := Aside0.mk hc5
          clear ho5 hc5 hC5
          refine hK.out _ _ ⟨(pw_cell_below hb5 hHeld.1), (pw_cell_below hb5 hHeld.2)⟩ (fun hHeld => ?_)
          clear hK K
          refine norm_ (a' := ?_) ?_ ?_
          rotate_left
          · show Act.put _ (some 23) _ = _
            simp only [Act.put, List.setIfInBounds_toArray, List.set_cons_zero, List.set_cons_succ, i64_w, i32_w]
            rfl
          refine last_ (i := 7) (N := none) #[true, true, true, true, true, true, true, true] rfl rfl (by kernel_rfl) (by decide) (fun K hK => ?_)
          (have hq_0 := (blk_cell hbox.out 0).trans (show (#[(.int .u64 0 : Value), (.int .i64 0 : Value), (.slice none 0 0 : Value)] : Array Value)[0]? = some (.int .u64 0) from rfl); have hqf_0 := blk_frozen hbox.out 0; have hq_1 := (blk_cell hbox.out 1).trans (show (#[(.int .u64 0 : Value), (.int .i64 0 : Value), (.slice none 0 0 : Value)] : Array Value)[1]? = some (.int .i64 0) from rfl); have hqf_1 := blk_frozen hbox.out 1; have hq_2 := (blk_cell hbox.out 2).trans (show (#[(.int .u64 0 : Value), (.int .i64 0 : Value), (.slice none 0 0 : Value)] : Array Value)[2]? = some (.slice none 0 0) from rfl); have hqf_2 := blk_frozen hbox.out 2)
          refine skip_ (w1 := ?_) (by rfl) rfl ?_ ?_
          rotate_left
          · go_simp
            rfl
          refine hK.out _ _ ?_
          clear hK K
          refine done_ (by kernel_rfl) ?_
          go_wp2_with fail
          go_meet
          have b1 := blk_set hbox.out 0 (.int .u64 1)
          have b2 := blk_set b1 1 (.int .i64 0)
          have b3 := blk_set b2 2 (.slice A5 1 c5)
          have r1 := Kd.R_set (Kd.R_set (Kd.R_set HR5.out hbox.out HT.out 0 (.int .u64 1)) b1 HT.out 1 (.int .i64 0)) b2 HT.out 2 (.slice A5 1 c5)
          exact ⟨g4, A5, c5, rfl, ⟨blk_far (blk_far (blk_far BK1.out hn14 _) hn14 _) hn14 _⟩, ⟨blk_far (blk_far (blk_far BK2.out hn24 _) hn24 _) hn24 _⟩, ⟨blk_far (blk_far (blk_far BK3.out hn34 _) hn34 _) hn34 _⟩, ⟨b3⟩, ⟨(reads1' r1).2⟩, HRc, ⟨hn24⟩, HG4, ⟨below_set (below_set (below_set HB.out HG4.out) HG4.out) HG4.out⟩⟩
      · skip
        refine box_step (by rfl) (N := 4) (by rfl) (cs := #[.int .u64 0, .int .i64 0, .slice none 0 0]) (t := 33) ?hr ?_
        case hr => first | (go_simp; done) | (go_simp; rfl)
        intro g4 hg w6 hbox hb6
        have HG4 := Aside0.mk (show w.heap.size ≤ g4 by rw [hg]; exact HB.out.size)
        have hn14 : g1 ≠ g4 := (by have h1 := blk_lt BK1.out; rw [hg]; omega)
        have hn24 : g2 ≠ g4 := (by have h1 := blk_lt BK2.out; rw [hg]; omega)
        have hn34 : g3 ≠ g4 := (by have h1 := blk_lt BK3.out; rw [hg]; omega)
        replace HB := Aside0.mk (below_then HB.out HB.out.size hb6)
        replace BK1 := Aside0.mk (cells_below BK1.out hb6)
        replace BK2 := Aside0.mk (cells_below BK2.out hb6)
        replace BK3 := Aside0.mk (cells_below BK3.out hb6)
        try replace HL := Aside0.mk (Kd.C_below HL.out hb6)
        try replace HR5 := Aside0.mk (Kd.R_below HR5.out hb6)
        replace hbox := Aside0.mk hbox
        clear hg
        refine hK.out _ _ ⟨(pw_cell_below hb6 hHeld.1), (pw_cell_below hb6 hHeld.2)⟩ (fun hHeld => ?_)
        clear hK K
        refine norm_ (a' := ?_) ?_ ?_
        rotate_left
        · show Act.put _ (some 4) _ = _
          simp only [Act.put, List.setIfInBounds_toArray, List.set_cons_zero, List.set_cons_succ, i64_w, i32_w]
          rfl
        refine two_ (i := 2) (j := 3) (Ni := some 20) (Nj := some 21) #[true, true, true, false, false, false, true, false] #[true, true, false, true, false, false, true, false] rfl rfl rfl rfl (by kernel_rfl) (by decide) (by decide) (fun K hK => ?_) (fun K hK => ?_)
        · skip
          refine goes_ Try.func18 (by kernel_rfl) rfl #[.agg #[.int .i64 5, .int .i64 0]] (by rfl) rfl rfl (by simp only [List.map_toArray, List.map_cons, List.map_nil]; rfl) ?_
          with_reducible refine (start0 5 0 _).mono ?_
          rintro e w3 ⟨A3, c3, rfl, hb3⟩
          refine ⟨_, rfl, ?_⟩
          replace HB := Aside0.mk (below_then HB.out HB.out.size hb3)
          replace BK1 := Aside0.mk (cells_below BK1.out hb3)
          replace BK2 := Aside0.mk (cells_below BK2.out hb3)
          replace BK3 := Aside0.mk (cells_below BK3.out hb3)
          try replace HL := Aside0.mk (Kd.C_below HL.out hb3)
          try replace hbox := Aside0.mk (cells_below hbox.out hb3)
          refine hK.out _ _ ⟨(pw_cell_below hb3 hHeld.1), (pw_cell_below hb3 hHeld.2)⟩ (fun hHeld => ?_)
          clear hK K
          refine norm_ (a' := ?_) ?_ ?_
          rotate_left
          · show Act.put _ (some 20) _ = _
            simp only [Act.put, List.setIfInBounds_toArray, List.set_cons_zero, List.set_cons_succ, i64_w, i32_w]
            rfl
          refine one_ (i := 3) (N := some 21) #[true, true, true, true, false, false, true, false] rfl rfl (by kernel_rfl) (by decide) (fun K hK => ?_)
          refine lit1_step Kd.string 9 (by rfl) (N := 21) (by rfl) (x := strB) (v := .string strB) ?hr (Reps.one (show Kd.M Kd.string _ _ _ strB [.string strB] from rfl) (Reps.none _ _)) ?_
          case hr => first | (go_simp; done) | (go_simp; rfl)
          intro A9 c9 w9 hC9 hc9 hb9
          replace HB := Aside0.mk (below_then HB.out HB.out.size hb9)
          replace BK1 := Aside0.mk (cells_below BK1.out hb9)
          replace BK2 := Aside0.mk (cells_below BK2.out hb9)
          replace BK3 := Aside0.mk (cells_below BK3.out hb9)
          replace HL := Aside0.mk hC9
          try replace hbox := Aside0.mk (cells_below hbox.out hb9)
          have HLc := Aside0.mk hc9
          clear hC9 hc9
          refine hK.out _ _ ⟨(pw_cell_below hb9 hHeld.1), (pw_cell_below hb9 hHeld.2)⟩ (fun hHeld => ?_)
          clear hK K
          refine norm_ (a' := ?_) ?_ ?_
          rotate_left
          · show Act.put _ (some 21) _ = _
            simp only [Act.put, List.setIfInBounds_toArray, List.set_cons_zero, List.set_cons_succ, i64_w, i32_w]
            rfl
          refine pure_ (i := 4) (N := some 22) (v := ?_) (a' := ?_) #[true, true, true, true, true, false, true, false] rfl rfl (by kernel_rfl) (fun _ _ _ h => h) (Or.inl ⟨by rfl, ?_⟩) ?_ ?_
          rotate_left
          · intro w'
            go_simp
            with_reducible rfl
          rotate_left
          · simp only [Act.put, List.setIfInBounds_toArray, List.set_cons_zero, List.set_cons_succ, i64_w, i32_w]
            rfl
          refine one_ (i := 5) (N := some 23) #[true, true, true, true, true, true, true, false] rfl rfl (by kernel_rfl) (by decide) (fun K hK => ?_)
          refine goes_ Try.func19 (by kernel_rfl) rfl #[.agg #[.int .i64 5, .int .i64 0], .agg #[.int .u64 0, .int .i64 0, .slice A3 0 c3], .agg #[.int .i64 0, .slice A9 1 c9, .slice none 0 0], .int .u64 1] (by rfl) rfl rfl (by simp only [List.map_toArray, List.map_cons, List.map_nil]; rfl) ?_
          with_reducible refine (addText strB 1 1 0 [strB] A3 A9 c3 c9 _ HL.out HLc.out aw3).mono ?_
          rintro e w5 ⟨v5, rfl, ho5, hb5⟩
          refine ⟨_, rfl, ?_⟩
          obtain ⟨A5, c5, rfl, hc5, hC5⟩ := reads1 ho5
          replace HB := Aside0.mk (below_then HB.out HB.out.size hb5)
          replace BK1 := Aside0.mk (cells_below BK1.out hb5)
          replace BK2 := Aside0.mk (cells_below BK2.out hb5)
          replace BK3 := Aside0.mk (cells_below BK3.out hb5)
          try replace hbox := Aside0.mk (cells_below hbox.out hb5)
          have HR5 := Aside0.mk ho5
          have HRc := Aside0.mk hc5
          clear ho5 hc5 hC5
          refine hK.out _ _ ⟨(pw_cell_below hb5 hHeld.1), (pw_cell_below hb5 hHeld.2)⟩ (fun hHeld => ?_)
          clear hK K
          refine norm_ (a' := ?_) ?_ ?_
          rotate_left
          · show Act.put _ (some 23) _ = _
            simp only [Act.put, List.setIfInBounds_toArray, List.set_cons_zero, List.set_cons_succ, i64_w, i32_w]
            rfl
          refine last_ (i := 7) (N := none) #[true, true, true, true, true, true, true, true] rfl rfl (by kernel_rfl) (by decide) (fun K hK => ?_)
          (have hq_0 := (blk_cell hbox.out 0).trans (show (#[(.int .u64 0 : Value), (.int .i64 0 : Value), (.slice none 0 0 : Value)] : Array Value)[0]? = some (.int .u64 0) from rfl); have hqf_0 := blk_frozen hbox.out 0; have hq_1 := (blk_cell hbox.out 1).trans (show (#[(.int .u64 0 : Value), (.int .i64 0 : Value), (.slice none 0 0 : Value)] : Array Value)[1]? = some (.int .i64 0) from rfl); have hqf_1 := blk_frozen hbox.out 1; have hq_2 := (blk_cell hbox.out 2).trans (show (#[(.int .u64 0 : Value), (.int .i64 0 : Value), (.slice none 0 0 : Value)] : Array Value)[2]? = some (.slice none 0 0) from rfl); have hqf_2 := blk_frozen hbox.out 2)
          refine skip_ (w1 := ?_) (by rfl) rfl ?_ ?_
          rotate_left
          · go_simp
            rfl
          refine hK.out _ _ ?_
          clear hK K
          refine done_ (by kernel_rfl) ?_
          go_wp2_with fail
          go_meet
          have b1 := blk_set hbox.out 0 (.int .u64 1)
          have b2 := blk_set b1 1 (.int .i64 0)
          have b3 := blk_set b2 2 (.slice A5 1 c5)
          have r1 := Kd.R_set (Kd.R_set (Kd.R_set HR5.out hbox.out HT.out 0 (.int .u64 1)) b1 HT.out 1 (.int .i64 0)) b2 HT.out 2 (.slice A5 1 c5)
          exact ⟨g4, A5, c5, rfl, ⟨blk_far (blk_far (blk_far BK1.out hn14 _) hn14 _) hn14 _⟩, ⟨blk_far (blk_far (blk_far BK2.out hn24 _) hn24 _) hn24 _⟩, ⟨blk_far (blk_far (blk_far BK3.out hn34 _) hn34 _) hn34 _⟩, ⟨b3⟩, ⟨(reads1' r1).2⟩, HRc, ⟨hn24⟩, HG4, ⟨below_set (below_set (below_set HB.out HG4.out) HG4.out) HG4.out⟩⟩
        · skip
          refine lit1_step Kd.string 9 (by rfl) (N := 21) (by rfl) (x := strB) (v := .string strB) ?hr (Reps.one (show Kd.M Kd.string _ _ _ strB [.string strB] from rfl) (Reps.none _ _)) ?_
          case hr => first | (go_simp; done) | (go_simp; rfl)
          intro A9 c9 w9 hC9 hc9 hb9
          replace HB := Aside0.mk (below_then HB.out HB.out.size hb9)
          replace BK1 := Aside0.mk (cells_below BK1.out hb9)
          replace BK2 := Aside0.mk (cells_below BK2.out hb9)
          replace BK3 := Aside0.mk (cells_below BK3.out hb9)
          replace HL := Aside0.mk hC9
          try replace hbox := Aside0.mk (cells_below hbox.out hb9)
          have HLc := Aside0.mk hc9
          clear hC9 hc9
          refine hK.out _ _ ⟨(pw_cell_below hb9 hHeld.1), (pw_cell_below hb9 hHeld.2)⟩ (fun hHeld => ?_)
          clear hK K
          refine norm_ (a' := ?_) ?_ ?_
          rotate_left
          · show Act.put _ (some 21) _ = _
            simp only [Act.put, List.setIfInBounds_toArray, List.set_cons_zero, List.set_cons_succ, i64_w, i32_w]
            rfl
          refine pure_ (i := 4) (N := some 22) (v := ?_) (a' := ?_) #[true, true, false, true, true, false, true, false] rfl rfl (by kernel_rfl) (fun _ _ _ h => h) (Or.inl ⟨by rfl, ?_⟩) ?_ ?_
          rotate_left
          · intro w'
            go_simp
            with_reducible rfl
          rotate_left
          · simp only [Act.put, List.setIfInBounds_toArray, List.set_cons_zero, List.set_cons_succ, i64_w, i32_w]
            rfl
          refine one_ (i := 2) (N := some 20) #[true, true, true, true, true, false, true, false] rfl rfl (by kernel_rfl) (by decide) (fun K hK => ?_)
          refine goes_ Try.func18 (by kernel_rfl) rfl #[.agg #[.int .i64 5, .int .i64 0]] (by rfl) rfl rfl (by simp only [List.map_toArray, List.map_cons, List.map_nil]; rfl) ?_
          with_reducible refine (start0 5 0 _).mono ?_
          rintro e w3 ⟨A3, c3, rfl, hb3⟩
          refine ⟨_, rfl, ?_⟩
          replace HB := Aside0.mk (below_then HB.out HB.out.size hb3)
          replace BK1 := Aside0.mk (cells_below BK1.out hb3)
          replace BK2 := Aside0.mk (cells_below BK2.out hb3)
          replace BK3 := Aside0.mk (cells_below BK3.out hb3)
          try replace HL := Aside0.mk (Kd.C_below HL.out hb3)
          try replace hbox := Aside0.mk (cells_below hbox.out hb3)
          refine hK.out _ _ ⟨(pw_cell_below hb3 hHeld.1), (pw_cell_below hb3 hHeld.2)⟩ (fun hHeld => ?_)
          clear hK K
          refine norm_ (a' := ?_) ?_ ?_
          rotate_left
          · show Act.put _ (some 20) _ = _
            simp only [Act.put, List.setIfInBounds_toArray, List.set_cons_zero, List.set_cons_succ, i64_w, i32_w]
            rfl
          refine one_ (i := 5) (N := some 23) #[true, true, true, true, true, true, true, false] rfl rfl (by kernel_rfl) (by decide) (fun K hK => ?_)
          refine goes_ Try.func19 (by kernel_rfl) rfl #[.agg #[.int .i64 5, .int .i64 0], .agg #[.int .u64 0, .int .i64 0, .slice A3 0 c3], .agg #[.int .i64 0, .slice A9 1 c9, .slice none 0 0], .int .u64 1] (by rfl) rfl rfl (by simp only [List.map_toArray, List.map_cons, List.map_nil]; rfl) ?_
          with_reducible refine (addText strB 1 1 0 [strB] A3 A9 c3 c9 _ HL.out HLc.out aw3).mono ?_
          rintro e w5 ⟨v5, rfl, ho5, hb5⟩
          refine ⟨_, rfl, ?_⟩
          obtain ⟨A5, c5, rfl, hc5, hC5⟩ := reads1 ho5
          replace HB := Aside0.mk (below_then HB.out HB.out.size hb5)
          replace BK1 := Aside0.mk (cells_below BK1.out hb5)
          replace BK2 := Aside0.mk (cells_below BK2.out hb5)
          replace BK3 := Aside0.mk (cells_below BK3.out hb5)
          try replace hbox := Aside0.mk (cells_below hbox.out hb5)
          have HR5 := Aside0.mk ho5
          have HRc := Aside0.mk hc5
          clear ho5 hc5 hC5
          refine hK.out _ _ ⟨(pw_cell_below hb5 hHeld.1), (pw_cell_below hb5 hHeld.2)⟩ (fun hHeld => ?_)
          clear hK K
          refine norm_ (a' := ?_) ?_ ?_
          rotate_left
          · show Act.put _ (some 23) _ = _
            simp only [Act.put, List.setIfInBounds_toArray, List.set_cons_zero, List.set_cons_succ, i64_w, i32_w]
            rfl
          refine last_ (i := 7) (N := none) #[true, true, true, true, true, true, true, true] rfl rfl (by kernel_rfl) (by decide) (fun K hK => ?_)
          (have hq_0 := (blk_cell hbox.out 0).trans (show (#[(.int .u64 0 : Value), (.int .i64 0 : Value), (.slice none 0 0 : Value)] : Array Value)[0]? = some (.int .u64 0) from rfl); have hqf_0 := blk_frozen hbox.out 0; have hq_1 := (blk_cell hbox.out 1).trans (show (#[(.int .u64 0 : Value), (.int .i64 0 : Value), (.slice none 0 0 : Value)] : Array Value)[1]? = some (.int .i64 0) from rfl); have hqf_1 := blk_frozen hbox.out 1; have hq_2 := (blk_cell hbox.out 2).trans (show (#[(.int .u64 0 : Value), (.int .i64 0 : Value), (.slice none 0 0 : Value)] : Array Value)[2]? = some (.slice none 0 0) from rfl); have hqf_2 := blk_frozen hbox.out 2)
          refine skip_ (w1 := ?_) (by rfl) rfl ?_ ?_
          rotate_left
          · go_simp
            rfl
          refine hK.out _ _ ?_
          clear hK K
          refine done_ (by kernel_rfl) ?_
          go_wp2_with fail
          go_meet
          have b1 := blk_set hbox.out 0 (.int .u64 1)
          have b2 := blk_set b1 1 (.int .i64 0)
          have b3 := blk_set b2 2 (.slice A5 1 c5)
          have r1 := Kd.R_set (Kd.R_set (Kd.R_set HR5.out hbox.out HT.out 0 (.int .u64 1)) b1 HT.out 1 (.int .i64 0)) b2 HT.out 2 (.slice A5 1 c5)
          exact ⟨g4, A5, c5, rfl, ⟨blk_far (blk_far (blk_far BK1.out hn14 _) hn14 _) hn14 _⟩, ⟨blk_far (blk_far (blk_far BK2.out hn24 _) hn24 _) hn24 _⟩, ⟨blk_far (blk_far (blk_far BK3.out hn34 _) hn34 _) hn34 _⟩, ⟨b3⟩, ⟨(reads1' r1).2⟩, HRc, ⟨hn24⟩, HG4, ⟨below_set (below_set (below_set HB.out HG4.out) HG4.out) HG4.out⟩⟩
    case rest =>
      obtain ⟨g4, A4, c4, rfl, BK1, BK2, BK3, BK4, HC4, HRc4, HN24, HG4, HB⟩ := hcut
      have hn24 := HN24.out
      have c0 : wc.cell? ⟨g3, 0, none⟩ = some (.int .i64 5) := (blk_cell BK3.out 0).trans rfl
      have c1 : wc.cell? ⟨g3, 1, none⟩ = some (.int .i64 0) := (blk_cell BK3.out 1).trans rfl
      have c2' : wc.cell? ⟨g4, 0, none⟩ = some (.int .u64 1) := (blk_cell BK4.out 0).trans rfl
      have c3' : wc.cell? ⟨g4, 1, none⟩ = some (.int .i64 0) := (blk_cell BK4.out 1).trans rfl
      have c4' : wc.cell? ⟨g4, 2, none⟩ = some (.slice A4 1 c4) := (blk_cell BK4.out 2).trans rfl
      replace HB := Aside0.mk (below_drew HB.out)
      replace BK1 := Aside0.mk (blk_drew BK1.out)
      replace BK2 := Aside0.mk (blk_drew BK2.out)
      replace BK3 := Aside0.mk (blk_drew BK3.out)
      replace BK4 := Aside0.mk (blk_drew BK4.out)
      replace HC4 := Aside0.mk (Kd.C_drew HC4.out)
      have hn14 := blk_ne BK1.out BK4.out (by decide)
      have hn34 := blk_ne BK3.out BK4.out (by decide)
      go_upto_region 6 with (fail)
      go_cut [] (fun wx => ∃ (A8 : Option Addr) (c8 : Nat), Aside0 (wx.heap[g1]? = some (.cells #[.int .i64 2, .int .i64 0] 23 (0, 0))) ∧ Aside0 (wx.heap[g2]? = some (.cells #[.int .u64 3, .int .i64 5, .slice A5 0 c5] 33 (0, 0))) ∧ Aside0 (wx.heap[g3]? = some (.cells #[.int .i64 5, .int .i64 0] 23 (0, 0))) ∧ Aside0 (wx.heap[g4]? = some (.cells #[.int .u64 2, .int .i64 0, .slice A8 2 c8] 33 (0, 0))) ∧ Aside0 (Kd.C Kd.string wx A8 2 [strA, strB]) ∧ Aside0 (2 ≤ c8) ∧ Aside0 (Below w.heap.size w wx))
      case first =>
        have HL := Aside0.mk trivial
        refine start_ (n := 10) (S := fun w' => w'.cell? ⟨g3, 0, none⟩ = some (.int .i64 5) ∧ w'.cell? ⟨g3, 1, none⟩ = some (.int .i64 0) ∧ w'.cell? ⟨g4, 0, none⟩ = some (.int .u64 1) ∧ w'.cell? ⟨g4, 1, none⟩ = some (.int .i64 0) ∧ w'.cell? ⟨g4, 2, none⟩ = some (.slice A4 1 c4)) (ds := [9]) #[false, false, false, false, false, false, false, false, false, false] (by kernel_rfl) rfl rfl ⟨c0, c1, c2', c3', c4'⟩ (fun hHeld => ?_)
        refine take_ (i := 0) (N := some 24) (v := ?_) (a' := ?_) #[true, false, false, false, false, false, false, false, false, false] rfl rfl (by kernel_rfl) (fun _ _ _ h => h) (Or.inl ⟨by rfl, ?_⟩) hHeld ?_ ?_
        rotate_left
        · rintro w' ⟨s0, s1, s2, s3, s4⟩
          go_simp
          with_reducible rfl
        rotate_left
        · simp only [Act.put, List.setIfInBounds_toArray, List.set_cons_zero, List.set_cons_succ, i64_w, i32_w]
          rfl
        refine take_ (i := 1) (N := some 25) (v := ?_) (a' := ?_) #[true, true, false, false, false, false, false, false, false, false] rfl rfl (by kernel_rfl) (fun _ _ _ h => h) (Or.inl ⟨by rfl, ?_⟩) hHeld ?_ ?_
        rotate_left
        · rintro w' ⟨s0, s1, s2, s3, s4⟩
          go_simp
          with_reducible rfl
        rotate_left
        · simp only [Act.put, List.setIfInBounds_toArray, List.set_cons_zero, List.set_cons_succ, i64_w, i32_w]
          rfl
        refine take_ (i := 2) (N := some 26) (v := ?_) (a' := ?_) #[true, true, true, false, false, false, false, false, false, false] rfl rfl (by kernel_rfl) (fun _ _ _ h => h) (Or.inl ⟨by rfl, ?_⟩) hHeld ?_ ?_
        rotate_left
        · rintro w' ⟨s0, s1, s2, s3, s4⟩
          go_simp
          with_reducible rfl
        rotate_left
        · simp only [Act.put, List.setIfInBounds_toArray, List.set_cons_zero, List.set_cons_succ, i64_w, i32_w]
          rfl
        refine take_ (i := 3) (N := some 27) (v := ?_) (a' := ?_) #[true, true, true, true, false, false, false, false, false, false] rfl rfl (by kernel_rfl) (fun _ _ _ h => h) (Or.inl ⟨by rfl, ?_⟩) hHeld ?_ ?_
        rotate_left
        · rintro w' ⟨s0, s1, s2, s3, s4⟩
          go_simp
          with_reducible rfl
        rotate_left
        · simp only [Act.put, List.setIfInBounds_toArray, List.set_cons_zero, List.set_cons_succ, i64_w, i32_w]
          rfl
        refine two_ (i := 4) (j := 5) (Ni := some 28) (Nj := some 29) #[true, true, true, true, true, false, false, false, false, false] #[true, true, true, true, false, true, false, false, false, false] rfl rfl rfl rfl (by kernel_rfl) (by decide) (by decide) (fun K hK => ?_) (fun K hK => ?_)
        · skip
          refine goes_ Try.func18 (by kernel_rfl) rfl #[.agg #[.int .i64 5, .int .i64 0]] (by rfl) rfl rfl (by simp only [List.map_toArray, List.map_cons, List.map_nil]; rfl) ?_
          with_reducible refine (start0 5 0 _).mono ?_
          rintro e w3 ⟨A3, c3, rfl, hb3⟩
          refine ⟨_, rfl, ?_⟩
          replace HB := Aside0.mk (below_then HB.out HB.out.size hb3)
          replace BK1 := Aside0.mk (cells_below BK1.out hb3)
          replace BK2 := Aside0.mk (cells_below BK2.out hb3)
          replace BK3 := Aside0.mk (cells_below BK3.out hb3)
          replace BK4 := Aside0.mk (cells_below BK4.out hb3)
          replace HC4 := Aside0.mk (Kd.C_below HC4.out hb3)
          try replace HL := Aside0.mk (Kd.C_below HL.out hb3)
          try replace HC7 := Aside0.mk (Kd.C_below HC7.out hb3)
          refine hK.out _ _ ⟨(pw_cell_below hb3 hHeld.1), (pw_cell_below hb3 hHeld.2.1), (pw_cell_below hb3 hHeld.2.2.1), (pw_cell_below hb3 hHeld.2.2.2.1), (pw_cell_below hb3 hHeld.2.2.2.2)⟩ (fun hHeld => ?_)
          clear hK K
          refine norm_ (a' := ?_) ?_ ?_
          rotate_left
          · show Act.put _ (some 28) _ = _
            simp only [Act.put, List.setIfInBounds_toArray, List.set_cons_zero, List.set_cons_succ, i64_w, i32_w]
            rfl
          refine one_ (i := 5) (N := some 29) #[true, true, true, true, true, true, false, false, false, false] rfl rfl (by kernel_rfl) (by decide) (fun K hK => ?_)
          refine lit1_step Kd.string 9 (by rfl) (N := 29) (by rfl) (x := strA) (v := .string strA) ?hr (Reps.one (show Kd.M Kd.string _ _ _ strA [.string strA] from rfl) (Reps.none _ _)) ?_
          case hr => first | (go_simp; done) | (go_simp; rfl)
          intro A9 c9 w9 hC9 hc9 hb9
          replace HB := Aside0.mk (below_then HB.out HB.out.size hb9)
          replace BK1 := Aside0.mk (cells_below BK1.out hb9)
          replace BK2 := Aside0.mk (cells_below BK2.out hb9)
          replace BK3 := Aside0.mk (cells_below BK3.out hb9)
          replace BK4 := Aside0.mk (cells_below BK4.out hb9)
          replace HC4 := Aside0.mk (Kd.C_below HC4.out hb9)
          try replace HL := Aside0.mk (Kd.C_below HL.out hb9)
          try replace HC7 := Aside0.mk (Kd.C_below HC7.out hb9)
          replace HL := Aside0.mk hC9
          have HLc := Aside0.mk hc9
          clear hC9 hc9
          refine hK.out _ _ ⟨(pw_cell_below hb9 hHeld.1), (pw_cell_below hb9 hHeld.2.1), (pw_cell_below hb9 hHeld.2.2.1), (pw_cell_below hb9 hHeld.2.2.2.1), (pw_cell_below hb9 hHeld.2.2.2.2)⟩ (fun hHeld => ?_)
          clear hK K
          refine norm_ (a' := ?_) ?_ ?_
          rotate_left
          · show Act.put _ (some 29) _ = _
            simp only [Act.put, List.setIfInBounds_toArray, List.set_cons_zero, List.set_cons_succ, i64_w, i32_w]
            rfl
          refine pure_ (i := 6) (N := some 30) (v := ?_) (a' := ?_) #[true, true, true, true, true, true, true, false, false, false] rfl rfl (by kernel_rfl) (fun _ _ _ h => h) (Or.inl ⟨by rfl, ?_⟩) ?_ ?_
          rotate_left
          · intro w'
            go_simp
            with_reducible rfl
          rotate_left
          · simp only [Act.put, List.setIfInBounds_toArray, List.set_cons_zero, List.set_cons_succ, i64_w, i32_w]
            rfl
          refine one_ (i := 7) (N := some 31) #[true, true, true, true, true, true, true, true, false, false] rfl rfl (by kernel_rfl) (by decide) (fun K hK => ?_)
          refine goes_ Try.func19 (by kernel_rfl) rfl #[.agg #[.int .i64 5, .int .i64 0], .agg #[.int .u64 0, .int .i64 0, .slice A3 0 c3], .agg #[.int .i64 0, .slice A9 1 c9, .slice none 0 0], .int .u64 1] (by rfl) rfl rfl (by simp only [List.map_toArray, List.map_cons, List.map_nil]; rfl) ?_
          with_reducible refine (addText strA 1 1 0 [strA] A3 A9 c3 c9 _ HL.out HLc.out aw4).mono ?_
          rintro e w5 ⟨v5, rfl, ho5, hb5⟩
          refine ⟨_, rfl, ?_⟩
          obtain ⟨A7, c7, rfl, hc7, hC7⟩ := reads1 ho5
          replace HB := Aside0.mk (below_then HB.out HB.out.size hb5)
          replace BK1 := Aside0.mk (cells_below BK1.out hb5)
          replace BK2 := Aside0.mk (cells_below BK2.out hb5)
          replace BK3 := Aside0.mk (cells_below BK3.out hb5)
          replace BK4 := Aside0.mk (cells_below BK4.out hb5)
          replace HC4 := Aside0.mk (Kd.C_below HC4.out hb5)
          try replace HL := Aside0.mk (Kd.C_below HL.out hb5)
          try replace HC7 := Aside0.mk (Kd.C_below HC7.out hb5)
          have HC7 := Aside0.mk hC7
          have HRc7 := Aside0.mk hc7
          clear ho5 hc7 hC7
          refine hK.out _ _ ⟨(pw_cell_below hb5 hHeld.1), (pw_cell_below hb5 hHeld.2.1), (pw_cell_below hb5 hHeld.2.2.1), (pw_cell_below hb5 hHeld.2.2.2.1), (pw_cell_below hb5 hHeld.2.2.2.2)⟩ (fun hHeld => ?_)
          clear hK K
          refine norm_ (a' := ?_) ?_ ?_
          rotate_left
          · show Act.put _ (some 31) _ = _
            simp only [Act.put, List.setIfInBounds_toArray, List.set_cons_zero, List.set_cons_succ, i64_w, i32_w]
            rfl
          refine one_ (i := 8) (N := some 32) #[true, true, true, true, true, true, true, true, true, false] rfl rfl (by kernel_rfl) (by decide) (fun K hK => ?_)
          refine goes_ Try.func17 (by kernel_rfl) rfl #[.agg #[.int .i64 5, .int .i64 0], .agg #[.int .u64 1, .int .i64 0, .slice A4 1 c4], .agg #[.int .u64 1, .int .i64 0, .slice A7 1 c7]] (by rfl) rfl rfl (by simp only [List.map_toArray, List.map_cons, List.map_nil]; rfl) ?_
          with_reducible refine (mergeTexts strB strA 2 0 [strA, strB] A4 A7 c4 c7 _ HC4.out HRc4.out HC7.out HRc7.out aw5).mono ?_
          rintro e w8 ⟨v8, rfl, ho8, hb8⟩
          refine ⟨_, rfl, ?_⟩
          obtain ⟨A8, c8, rfl, hc8, hC8⟩ := reads2 ho8
          replace HB := Aside0.mk (below_then HB.out HB.out.size hb8)
          replace BK1 := Aside0.mk (cells_below BK1.out hb8)
          replace BK2 := Aside0.mk (cells_below BK2.out hb8)
          replace BK3 := Aside0.mk (cells_below BK3.out hb8)
          replace BK4 := Aside0.mk (cells_below BK4.out hb8)
          replace HC4 := Aside0.mk (Kd.C_below HC4.out hb8)
          try replace HL := Aside0.mk (Kd.C_below HL.out hb8)
          try replace HC7 := Aside0.mk (Kd.C_below HC7.out hb8)
          have HR8 := Aside0.mk ho8
          have HRc8 := Aside0.mk hc8
          clear ho8 hc8 hC8
          refine hK.out _ _ ⟨(pw_cell_below hb8 hHeld.1), (pw_cell_below hb8 hHeld.2.1), (pw_cell_below hb8 hHeld.2.2.1), (pw_cell_below hb8 hHeld.2.2.2.1), (pw_cell_below hb8 hHeld.2.2.2.2)⟩ (fun hHeld => ?_)
          clear hK K
          refine norm_ (a' := ?_) ?_ ?_
          rotate_left
          · show Act.put _ (some 32) _ = _
            simp only [Act.put, List.setIfInBounds_toArray, List.set_cons_zero, List.set_cons_succ, i64_w, i32_w]
            rfl
          refine last_ (i := 9) (N := none) #[true, true, true, true, true, true, true, true, true, true] rfl rfl (by kernel_rfl) (by decide) (fun K hK => ?_)
          (have hq_0 := (blk_cell BK4.out 0).trans (show (#[(.int .u64 1 : Value), (.int .i64 0 : Value), (.slice A4 1 c4 : Value)] : Array Value)[0]? = some (.int .u64 1) from rfl); have hqf_0 := blk_frozen BK4.out 0; have hq_1 := (blk_cell BK4.out 1).trans (show (#[(.int .u64 1 : Value), (.int .i64 0 : Value), (.slice A4 1 c4 : Value)] : Array Value)[1]? = some (.int .i64 0) from rfl); have hqf_1 := blk_frozen BK4.out 1; have hq_2 := (blk_cell BK4.out 2).trans (show (#[(.int .u64 1 : Value), (.int .i64 0 : Value), (.slice A4 1 c4 : Value)] : Array Value)[2]? = some (.slice A4 1 c4) from rfl); have hqf_2 := blk_frozen BK4.out 2)
          refine skip_ (w1 := ?_) (by rfl) rfl ?_ ?_
          rotate_left
          · go_simp
            rfl
          refine hK.out _ _ ?_
          clear hK K
          refine done_ (by kernel_rfl) ?_
          go_wp2_with fail
          go_meet
          have b1 := blk_set BK4.out 0 (.int .u64 2)
          have b2 := blk_set b1 1 (.int .i64 0)
          have b3 := blk_set b2 2 (.slice A8 2 c8)
          have r1 := Kd.R_set (Kd.R_set (Kd.R_set HR8.out BK4.out HT.out 0 (.int .u64 2)) b1 HT.out 1 (.int .i64 0)) b2 HT.out 2 (.slice A8 2 c8)
          exact ⟨A8, c8, ⟨blk_far (blk_far (blk_far BK1.out hn14 _) hn14 _) hn14 _⟩, ⟨blk_far (blk_far (blk_far BK2.out hn24 _) hn24 _) hn24 _⟩, ⟨blk_far (blk_far (blk_far BK3.out hn34 _) hn34 _) hn34 _⟩, ⟨b3⟩, ⟨(Kd.R_reads' r1).2.2⟩, HRc8, ⟨below_set (below_set (below_set HB.out HG4.out) HG4.out) HG4.out⟩⟩
        · skip
          refine lit1_step Kd.string 9 (by rfl) (N := 29) (by rfl) (x := strA) (v := .string strA) ?hr (Reps.one (show Kd.M Kd.string _ _ _ strA [.string strA] from rfl) (Reps.none _ _)) ?_
          case hr => first | (go_simp; done) | (go_simp; rfl)
          intro A9 c9 w9 hC9 hc9 hb9
          replace HB := Aside0.mk (below_then HB.out HB.out.size hb9)
          replace BK1 := Aside0.mk (cells_below BK1.out hb9)
          replace BK2 := Aside0.mk (cells_below BK2.out hb9)
          replace BK3 := Aside0.mk (cells_below BK3.out hb9)
          replace BK4 := Aside0.mk (cells_below BK4.out hb9)
          replace HC4 := Aside0.mk (Kd.C_below HC4.out hb9)
          try replace HL := Aside0.mk (Kd.C_below HL.out hb9)
          try replace HC7 := Aside0.mk (Kd.C_below HC7.out hb9)
          replace HL := Aside0.mk hC9
          have HLc := Aside0.mk hc9
          clear hC9 hc9
          refine hK.out _ _ ⟨(pw_cell_below hb9 hHeld.1), (pw_cell_below hb9 hHeld.2.1), (pw_cell_below hb9 hHeld.2.2.1), (pw_cell_below hb9 hHeld.2.2.2.1), (pw_cell_below hb9 hHeld.2.2.2.2)⟩ (fun hHeld => ?_)
          clear hK K
          refine norm_ (a' := ?_) ?_ ?_
          rotate_left
          · show Act.put _ (some 29) _ = _
            simp only [Act.put, List.setIfInBounds_toArray, List.set_cons_zero, List.set_cons_succ, i64_w, i32_w]
            rfl
          refine pure_ (i := 6) (N := some 30) (v := ?_) (a' := ?_) #[true, true, true, true, false, true, true, false, false, false] rfl rfl (by kernel_rfl) (fun _ _ _ h => h) (Or.inl ⟨by rfl, ?_⟩) ?_ ?_
          rotate_left
          · intro w'
            go_simp
            with_reducible rfl
          rotate_left
          · simp only [Act.put, List.setIfInBounds_toArray, List.set_cons_zero, List.set_cons_succ, i64_w, i32_w]
            rfl
          refine one_ (i := 4) (N := some 28) #[true, true, true, true, true, true, true, false, false, false] rfl rfl (by kernel_rfl) (by decide) (fun K hK => ?_)
          refine goes_ Try.func18 (by kernel_rfl) rfl #[.agg #[.int .i64 5, .int .i64 0]] (by rfl) rfl rfl (by simp only [List.map_toArray, List.map_cons, List.map_nil]; rfl) ?_
          with_reducible refine (start0 5 0 _).mono ?_
          rintro e w3 ⟨A3, c3, rfl, hb3⟩
          refine ⟨_, rfl, ?_⟩
          replace HB := Aside0.mk (below_then HB.out HB.out.size hb3)
          replace BK1 := Aside0.mk (cells_below BK1.out hb3)
          replace BK2 := Aside0.mk (cells_below BK2.out hb3)
          replace BK3 := Aside0.mk (cells_below BK3.out hb3)
          replace BK4 := Aside0.mk (cells_below BK4.out hb3)
          replace HC4 := Aside0.mk (Kd.C_below HC4.out hb3)
          try replace HL := Aside0.mk (Kd.C_below HL.out hb3)
          try replace HC7 := Aside0.mk (Kd.C_below HC7.out hb3)
          refine hK.out _ _ ⟨(pw_cell_below hb3 hHeld.1), (pw_cell_below hb3 hHeld.2.1), (pw_cell_below hb3 hHeld.2.2.1), (pw_cell_below hb3 hHeld.2.2.2.1), (pw_cell_below hb3 hHeld.2.2.2.2)⟩ (fun hHeld => ?_)
          clear hK K
          refine norm_ (a' := ?_) ?_ ?_
          rotate_left
          · show Act.put _ (some 28) _ = _
            simp only [Act.put, List.setIfInBounds_toArray, List.set_cons_zero, List.set_cons_succ, i64_w, i32_w]
            rfl
          refine one_ (i := 7) (N := some 31) #[true, true, true, true, true, true, true, true, false, false] rfl rfl (by kernel_rfl) (by decide) (fun K hK => ?_)
          refine goes_ Try.func19 (by kernel_rfl) rfl #[.agg #[.int .i64 5, .int .i64 0], .agg #[.int .u64 0, .int .i64 0, .slice A3 0 c3], .agg #[.int .i64 0, .slice A9 1 c9, .slice none 0 0], .int .u64 1] (by rfl) rfl rfl (by simp only [List.map_toArray, List.map_cons, List.map_nil]; rfl) ?_
          with_reducible refine (addText strA 1 1 0 [strA] A3 A9 c3 c9 _ HL.out HLc.out aw4).mono ?_
          rintro e w5 ⟨v5, rfl, ho5, hb5⟩
          refine ⟨_, rfl, ?_⟩
          obtain ⟨A7, c7, rfl, hc7, hC7⟩ := reads1 ho5
          replace HB := Aside0.mk (below_then HB.out HB.out.size hb5)
          replace BK1 := Aside0.mk (cells_below BK1.out hb5)
          replace BK2 := Aside0.mk (cells_below BK2.out hb5)
          replace BK3 := Aside0.mk (cells_below BK3.out hb5)
          replace BK4 := Aside0.mk (cells_below BK4.out hb5)
          replace HC4 := Aside0.mk (Kd.C_below HC4.out hb5)
          try replace HL := Aside0.mk (Kd.C_below HL.out hb5)
          try replace HC7 := Aside0.mk (Kd.C_below HC7.out hb5)
          have HC7 := Aside0.mk hC7
          have HRc7 := Aside0.mk hc7
          clear ho5 hc7 hC7
          refine hK.out _ _ ⟨(pw_cell_below hb5 hHeld.1), (pw_cell_below hb5 hHeld.2.1), (pw_cell_below hb5 hHeld.2.2.1), (pw_cell_below hb5 hHeld.2.2.2.1), (pw_cell_below hb5 hHeld.2.2.2.2)⟩ (fun hHeld => ?_)
          clear hK K
          refine norm_ (a' := ?_) ?_ ?_
          rotate_left
          · show Act.put _ (some 31) _ = _
            simp only [Act.put, List.setIfInBounds_toArray, List.set_cons_zero, List.set_cons_succ, i64_w, i32_w]
            rfl
          refine one_ (i := 8) (N := some 32) #[true, true, true, true, true, true, true, true, true, false] rfl rfl (by kernel_rfl) (by decide) (fun K hK => ?_)
          refine goes_ Try.func17 (by kernel_rfl) rfl #[.agg #[.int .i64 5, .int .i64 0], .agg #[.int .u64 1, .int .i64 0, .slice A4 1 c4], .agg #[.int .u64 1, .int .i64 0, .slice A7 1 c7]] (by rfl) rfl rfl (by simp only [List.map_toArray, List.map_cons, List.map_nil]; rfl) ?_
          with_reducible refine (mergeTexts strB strA 2 0 [strA, strB] A4 A7 c4 c7 _ HC4.out HRc4.out HC7.out HRc7.out aw5).mono ?_
          rintro e w8 ⟨v8, rfl, ho8, hb8⟩
          refine ⟨_, rfl, ?_⟩
          obtain ⟨A8, c8, rfl, hc8, hC8⟩ := reads2 ho8
          replace HB := Aside0.mk (below_then HB.out HB.out.size hb8)
          replace BK1 := Aside0.mk (cells_below BK1.out hb8)
          replace BK2 := Aside0.mk (cells_below BK2.out hb8)
          replace BK3 := Aside0.mk (cells_below BK3.out hb8)
          replace BK4 := Aside0.mk (cells_below BK4.out hb8)
          replace HC4 := Aside0.mk (Kd.C_below HC4.out hb8)
          try replace HL := Aside0.mk (Kd.C_below HL.out hb8)
          try replace HC7 := Aside0.mk (Kd.C_below HC7.out hb8)
          have HR8 := Aside0.mk ho8
          have HRc8 := Aside0.mk hc8
          clear ho8 hc8 hC8
          refine hK.out _ _ ⟨(pw_cell_below hb8 hHeld.1), (pw_cell_below hb8 hHeld.2.1), (pw_cell_below hb8 hHeld.2.2.1), (pw_cell_below hb8 hHeld.2.2.2.1), (pw_cell_below hb8 hHeld.2.2.2.2)⟩ (fun hHeld => ?_)
          clear hK K
          refine norm_ (a' := ?_) ?_ ?_
          rotate_left
          · show Act.put _ (some 32) _ = _
            simp only [Act.put, List.setIfInBounds_toArray, List.set_cons_zero, List.set_cons_succ, i64_w, i32_w]
            rfl
          refine last_ (i := 9) (N := none) #[true, true, true, true, true, true, true, true, true, true] rfl rfl (by kernel_rfl) (by decide) (fun K hK => ?_)
          (have hq_0 := (blk_cell BK4.out 0).trans (show (#[(.int .u64 1 : Value), (.int .i64 0 : Value), (.slice A4 1 c4 : Value)] : Array Value)[0]? = some (.int .u64 1) from rfl); have hqf_0 := blk_frozen BK4.out 0; have hq_1 := (blk_cell BK4.out 1).trans (show (#[(.int .u64 1 : Value), (.int .i64 0 : Value), (.slice A4 1 c4 : Value)] : Array Value)[1]? = some (.int .i64 0) from rfl); have hqf_1 := blk_frozen BK4.out 1; have hq_2 := (blk_cell BK4.out 2).trans (show (#[(.int .u64 1 : Value), (.int .i64 0 : Value), (.slice A4 1 c4 : Value)] : Array Value)[2]? = some (.slice A4 1 c4) from rfl); have hqf_2 := blk_frozen BK4.out 2)
          refine skip_ (w1 := ?_) (by rfl) rfl ?_ ?_
          rotate_left
          · go_simp
            rfl
          refine hK.out _ _ ?_
          clear hK K
          refine done_ (by kernel_rfl) ?_
          go_wp2_with fail
          go_meet
          have b1 := blk_set BK4.out 0 (.int .u64 2)
          have b2 := blk_set b1 1 (.int .i64 0)
          have b3 := blk_set b2 2 (.slice A8 2 c8)
          have r1 := Kd.R_set (Kd.R_set (Kd.R_set HR8.out BK4.out HT.out 0 (.int .u64 2)) b1 HT.out 1 (.int .i64 0)) b2 HT.out 2 (.slice A8 2 c8)
          exact ⟨A8, c8, ⟨blk_far (blk_far (blk_far BK1.out hn14 _) hn14 _) hn14 _⟩, ⟨blk_far (blk_far (blk_far BK2.out hn24 _) hn24 _) hn24 _⟩, ⟨blk_far (blk_far (blk_far BK3.out hn34 _) hn34 _) hn34 _⟩, ⟨b3⟩, ⟨(Kd.R_reads' r1).2.2⟩, HRc8, ⟨below_set (below_set (below_set HB.out HG4.out) HG4.out) HG4.out⟩⟩
      case rest =>
        obtain ⟨A8, c8, BK1, BK2, BK3, BK4, HC8, HRc8, HB⟩ := hcut
        (have hq1_0 := (blk_cell BK1.out 0).trans (show (#[(.int .i64 2 : Value), (.int .i64 0 : Value)] : Array Value)[0]? = some (.int .i64 2) from rfl); have hqf1_0 := blk_frozen BK1.out 0; have hq1_1 := (blk_cell BK1.out 1).trans (show (#[(.int .i64 2 : Value), (.int .i64 0 : Value)] : Array Value)[1]? = some (.int .i64 0) from rfl); have hqf1_1 := blk_frozen BK1.out 1)
        (have hq2_0 := (blk_cell BK2.out 0).trans (show (#[(.int .u64 3 : Value), (.int .i64 5 : Value), (.slice A5 0 c5 : Value)] : Array Value)[0]? = some (.int .u64 3) from rfl); have hqf2_0 := blk_frozen BK2.out 0; have hq2_1 := (blk_cell BK2.out 1).trans (show (#[(.int .u64 3 : Value), (.int .i64 5 : Value), (.slice A5 0 c5 : Value)] : Array Value)[1]? = some (.int .i64 5) from rfl); have hqf2_1 := blk_frozen BK2.out 1; have hq2_2 := (blk_cell BK2.out 2).trans (show (#[(.int .u64 3 : Value), (.int .i64 5 : Value), (.slice A5 0 c5 : Value)] : Array Value)[2]? = some (.slice A5 0 c5) from rfl); have hqf2_2 := blk_frozen BK2.out 2)
        (have hq3_0 := (blk_cell BK3.out 0).trans (show (#[(.int .i64 5 : Value), (.int .i64 0 : Value)] : Array Value)[0]? = some (.int .i64 5) from rfl); have hqf3_0 := blk_frozen BK3.out 0; have hq3_1 := (blk_cell BK3.out 1).trans (show (#[(.int .i64 5 : Value), (.int .i64 0 : Value)] : Array Value)[1]? = some (.int .i64 0) from rfl); have hqf3_1 := blk_frozen BK3.out 1)
        (have hq4_0 := (blk_cell BK4.out 0).trans (show (#[(.int .u64 2 : Value), (.int .i64 0 : Value), (.slice A8 2 c8 : Value)] : Array Value)[0]? = some (.int .u64 2) from rfl); have hqf4_0 := blk_frozen BK4.out 0; have hq4_1 := (blk_cell BK4.out 1).trans (show (#[(.int .u64 2 : Value), (.int .i64 0 : Value), (.slice A8 2 c8 : Value)] : Array Value)[1]? = some (.int .i64 0) from rfl); have hqf4_1 := blk_frozen BK4.out 1; have hq4_2 := (blk_cell BK4.out 2).trans (show (#[(.int .u64 2 : Value), (.int .i64 0 : Value), (.slice A8 2 c8 : Value)] : Array Value)[2]? = some (.slice A8 2 c8) from rfl); have hqf4_2 := blk_frozen BK4.out 2)
        go_wp2_with fail
        refine (value0 2 3 5 5 A5 c5 _ val1).mono ?_
        rintro e w6 ⟨rfl, hb6⟩
        replace HB := Aside0.mk (below_then HB.out HB.out.size hb6)
        replace BK1 := Aside0.mk (cells_below BK1.out hb6)
        replace BK2 := Aside0.mk (cells_below BK2.out hb6)
        replace BK3 := Aside0.mk (cells_below BK3.out hb6)
        replace BK4 := Aside0.mk (cells_below BK4.out hb6)
        replace HC8 := Aside0.mk (Kd.C_below HC8.out hb6)
        clear hq1_0 hqf1_0 hq1_1 hqf1_1 hq2_0 hqf2_0 hq2_1 hqf2_1 hq2_2 hqf2_2 hq3_0 hqf3_0 hq3_1 hqf3_1 hq4_0 hqf4_0 hq4_1 hqf4_1 hq4_2 hqf4_2
        (have hq1_0 := (blk_cell BK1.out 0).trans (show (#[(.int .i64 2 : Value), (.int .i64 0 : Value)] : Array Value)[0]? = some (.int .i64 2) from rfl); have hqf1_0 := blk_frozen BK1.out 0; have hq1_1 := (blk_cell BK1.out 1).trans (show (#[(.int .i64 2 : Value), (.int .i64 0 : Value)] : Array Value)[1]? = some (.int .i64 0) from rfl); have hqf1_1 := blk_frozen BK1.out 1)
        (have hq2_0 := (blk_cell BK2.out 0).trans (show (#[(.int .u64 3 : Value), (.int .i64 5 : Value), (.slice A5 0 c5 : Value)] : Array Value)[0]? = some (.int .u64 3) from rfl); have hqf2_0 := blk_frozen BK2.out 0; have hq2_1 := (blk_cell BK2.out 1).trans (show (#[(.int .u64 3 : Value), (.int .i64 5 : Value), (.slice A5 0 c5 : Value)] : Array Value)[1]? = some (.int .i64 5) from rfl); have hqf2_1 := blk_frozen BK2.out 1; have hq2_2 := (blk_cell BK2.out 2).trans (show (#[(.int .u64 3 : Value), (.int .i64 5 : Value), (.slice A5 0 c5 : Value)] : Array Value)[2]? = some (.slice A5 0 c5) from rfl); have hqf2_2 := blk_frozen BK2.out 2)
        (have hq3_0 := (blk_cell BK3.out 0).trans (show (#[(.int .i64 5 : Value), (.int .i64 0 : Value)] : Array Value)[0]? = some (.int .i64 5) from rfl); have hqf3_0 := blk_frozen BK3.out 0; have hq3_1 := (blk_cell BK3.out 1).trans (show (#[(.int .i64 5 : Value), (.int .i64 0 : Value)] : Array Value)[1]? = some (.int .i64 0) from rfl); have hqf3_1 := blk_frozen BK3.out 1)
        (have hq4_0 := (blk_cell BK4.out 0).trans (show (#[(.int .u64 2 : Value), (.int .i64 0 : Value), (.slice A8 2 c8 : Value)] : Array Value)[0]? = some (.int .u64 2) from rfl); have hqf4_0 := blk_frozen BK4.out 0; have hq4_1 := (blk_cell BK4.out 1).trans (show (#[(.int .u64 2 : Value), (.int .i64 0 : Value), (.slice A8 2 c8 : Value)] : Array Value)[1]? = some (.int .i64 0) from rfl); have hqf4_1 := blk_frozen BK4.out 1; have hq4_2 := (blk_cell BK4.out 2).trans (show (#[(.int .u64 2 : Value), (.int .i64 0 : Value), (.slice A8 2 c8 : Value)] : Array Value)[2]? = some (.slice A8 2 c8) from rfl); have hqf4_2 := blk_frozen BK4.out 2)
        clear hb6
        go_wp2_with fail
        refine (value2 5 2 0 2 strA strB A8 c8 _ HC8.out HRc8.out val2).mono ?_
        rintro e w7 ⟨rfl, hb7⟩
        replace HB := Aside0.mk (below_then HB.out HB.out.size hb7)
        replace BK1 := Aside0.mk (cells_below BK1.out hb7)
        replace BK2 := Aside0.mk (cells_below BK2.out hb7)
        replace BK3 := Aside0.mk (cells_below BK3.out hb7)
        replace BK4 := Aside0.mk (cells_below BK4.out hb7)
        replace HC8 := Aside0.mk (Kd.C_below HC8.out hb7)
        clear hq1_0 hqf1_0 hq1_1 hqf1_1 hq2_0 hqf2_0 hq2_1 hqf2_1 hq2_2 hqf2_2 hq3_0 hqf3_0 hq3_1 hqf3_1 hq4_0 hqf4_0 hq4_1 hqf4_1 hq4_2 hqf4_2
        (have hq1_0 := (blk_cell BK1.out 0).trans (show (#[(.int .i64 2 : Value), (.int .i64 0 : Value)] : Array Value)[0]? = some (.int .i64 2) from rfl); have hqf1_0 := blk_frozen BK1.out 0; have hq1_1 := (blk_cell BK1.out 1).trans (show (#[(.int .i64 2 : Value), (.int .i64 0 : Value)] : Array Value)[1]? = some (.int .i64 0) from rfl); have hqf1_1 := blk_frozen BK1.out 1)
        (have hq2_0 := (blk_cell BK2.out 0).trans (show (#[(.int .u64 3 : Value), (.int .i64 5 : Value), (.slice A5 0 c5 : Value)] : Array Value)[0]? = some (.int .u64 3) from rfl); have hqf2_0 := blk_frozen BK2.out 0; have hq2_1 := (blk_cell BK2.out 1).trans (show (#[(.int .u64 3 : Value), (.int .i64 5 : Value), (.slice A5 0 c5 : Value)] : Array Value)[1]? = some (.int .i64 5) from rfl); have hqf2_1 := blk_frozen BK2.out 1; have hq2_2 := (blk_cell BK2.out 2).trans (show (#[(.int .u64 3 : Value), (.int .i64 5 : Value), (.slice A5 0 c5 : Value)] : Array Value)[2]? = some (.slice A5 0 c5) from rfl); have hqf2_2 := blk_frozen BK2.out 2)
        (have hq3_0 := (blk_cell BK3.out 0).trans (show (#[(.int .i64 5 : Value), (.int .i64 0 : Value)] : Array Value)[0]? = some (.int .i64 5) from rfl); have hqf3_0 := blk_frozen BK3.out 0; have hq3_1 := (blk_cell BK3.out 1).trans (show (#[(.int .i64 5 : Value), (.int .i64 0 : Value)] : Array Value)[1]? = some (.int .i64 0) from rfl); have hqf3_1 := blk_frozen BK3.out 1)
        (have hq4_0 := (blk_cell BK4.out 0).trans (show (#[(.int .u64 2 : Value), (.int .i64 0 : Value), (.slice A8 2 c8 : Value)] : Array Value)[0]? = some (.int .u64 2) from rfl); have hqf4_0 := blk_frozen BK4.out 0; have hq4_1 := (blk_cell BK4.out 1).trans (show (#[(.int .u64 2 : Value), (.int .i64 0 : Value), (.slice A8 2 c8 : Value)] : Array Value)[1]? = some (.int .i64 0) from rfl); have hqf4_1 := blk_frozen BK4.out 1; have hq4_2 := (blk_cell BK4.out 2).trans (show (#[(.int .u64 2 : Value), (.int .i64 0 : Value), (.slice A8 2 c8 : Value)] : Array Value)[2]? = some (.slice A8 2 c8) from rfl); have hqf4_2 := blk_frozen BK4.out 2)
        clear hb7
        go_wp2_with fail
        refine (check1 0 0 2 0 1 _ _ (C_agg1 (heap_alloc_new _ (.cells #[.int .i64 2, .int .i64 0] 23))) chk).mono ?_
        rintro e w8 ⟨rfl, hb8⟩
        replace HB := Aside0.mk (below_then (below_alloc' HB.out (.cells #[.int .i64 2, .int .i64 0] 23)) (below_alloc' HB.out (.cells #[.int .i64 2, .int .i64 0] 23)).size hb8)
        clear hb8
        go_wp2_with fail
        go_ret
        exact ⟨rfl, HB.out⟩
def gristmilllaw06_awake.f : Option Bool := some true
theorem gristmilllaw06_awake.calls (r : Bool) (w : World) (h : gristmilllaw06_awake.f = some r) : Calls Try.prog 10 #[] w fun e w' => e = .returned (.bool r) ∧ Below w.heap.size w w' := by
  injection h with h
  subst h
  exact gristmilllaw06_awake.calls0 w
end Go.Proofs.Ytmjhgeinhhhodaa.P
end

section
namespace Go.Proofs.Ytmjhgeinhhhodaa.P
open Go.RowKit Go.Proofs.YtmjhgeinhhhodaaW.PrintWords Go.Proofs.YtmjhgeinhhhodaaW.PrintLast Go.Proofs.YtmjhgeinhhhodaaW.PrintMore
attribute [local go_sem] max2_int min2_int max_two min_two max_three min_three max_four min_four   -- for this text's walks alone
set_option linter.unusedVariables false
set_option linter.unusedSimpArgs false
open Go.Proofs.Ytmjhgeinhhhodaa.Ext (q1_ q2_ q3_)
attribute [local go_sem high] Go.Proofs.Ytmjhgeinhhhodaa.Ext.gtr_str Go.Proofs.Ytmjhgeinhhhodaa.Ext.leq_str Go.Proofs.Ytmjhgeinhhhodaa.Ext.geq_str
def gristmilllaw06_AggTurns.l0 : Nat → List (S44) → List (S44) → Int → Int → Int → Int → Int → List ByteArray → Int → Int → List ByteArray → Int → Int → List ByteArray → Option (Bool)
 | 0, _, _, _, _, _, _, _, _, _, _, _, _, _, _ => none
 | k + 1, x12, x22, x23, x302000, x302001, x326000, x326001, x326002, x332000, x332001, x332002, x338000, x338001, x338002 => if x23 ≥ 0 then (if 0 ≤ x23 then (if x23 < (x12.length : Int) then (if x22.length < 2199023255552 then (gristmilllaw06_AggTurns.l0 k x12 (x22 ++ [(⟨(⟨(rd_T44 x12 x23).f0.f0, (rd_T44 x12 x23).f0.f1, (rd_T44 x12 x23).f0.f2⟩ : S42), (rd_T44 x12 x23).f1⟩ : S44)]) (wrap64 (x23 - 1)) x302000 x302001 x326000 x326001 x326002 x332000 x332001 x332002 x338000 x338001 x338002) else (none)) else (none)) else (none)) else ((agg_Merge.f x302000 x302001 x326000 x326001 x326002 x332000 x332001 x332002).bind fun bt342 => ((agg_Merge.f x302000 x302001 x332000 x332001 x332002 x326000 x326001 x326002).bind fun bt347 => ((gristmillref06_Same.f k bt342.1 bt342.2.1 bt342.2.2 bt347.1 bt347.2.1 bt347.2.2).bind fun t352 => ((agg_Merge.f x302000 x302001 x326000 x326001 x326002 x332000 x332001 x332002).bind fun bt353 => ((agg_Merge.f x302000 x302001 bt353.1 bt353.2.1 bt353.2.2 x338000 x338001 x338002).bind fun bt358 => ((agg_Merge.f x302000 x302001 x332000 x332001 x332002 x338000 x338001 x338002).bind fun bt363 => ((agg_Merge.f x302000 x302001 x326000 x326001 x326002 bt363.1 bt363.2.1 bt363.2.2).bind fun bt368 => ((gristmillref06_Same.f k bt358.1 bt358.2.1 bt358.2.2 bt368.1 bt368.2.1 bt368.2.2).bind fun t373 => (if t352 = true then (if t373 = true then ((gristmilllaw06_of.f k x302000 x302001 x22).bind fun bt374 => ((gristmillref06_Same.f k bt374.1 bt374.2.1 bt374.2.2 x326000 x326001 x326002).bind fun t379 => (if t379 = true then ((agg_Start.f x302000 x302001).bind fun bt380 => ((agg_Merge.f x302000 x302001 x326000 x326001 x326002 bt380.1 bt380.2.1 bt380.2.2).bind fun bt385 => ((gristmillref06_Same.f k bt385.1 bt385.2.1 bt385.2.2 x326000 x326001 x326002).bind fun t390 => (if t390 = true then ((agg_Start.f x302000 x302001).bind fun bt391 => ((agg_Merge.f x302000 x302001 bt391.1 bt391.2.1 bt391.2.2 x326000 x326001 x326002).bind fun bt396 => ((gristmillref06_Same.f k bt396.1 bt396.2.1 bt396.2.2 x326000 x326001 x326002).bind fun t401 => (some t401)))) else (some false))))) else (some false)))) else (some false)) else (some false))))))))))
def gristmilllaw06_AggTurns.f (k : Nat) (a0_0 : Int) (a0_1 : Int) (l1 : List (S44)) (l2 : List (S44)) (l3 : List (S44)) : Option (Bool) := (gristmilllaw06_awake.f).bind fun t292 => (if t292 = true then ((gristmilllaw06_right.f k a0_0 a0_1 l1).bind fun bt293 => ((gristmilllaw06_right.f k a0_0 a0_1 l2).bind fun bt302 => ((gristmilllaw06_right.f k a0_0 a0_1 l3).bind fun bt311 => ((gristmilllaw06_of.f k bt293.2.2.1 bt293.2.2.2.1 bt293.2.2.2.2).bind fun bt320 => ((gristmilllaw06_of.f k bt293.2.2.1 bt293.2.2.2.1 bt302.2.2.2.2).bind fun bt326 => ((gristmilllaw06_of.f k bt293.2.2.1 bt293.2.2.2.1 bt311.2.2.2.2).bind fun bt332 => (gristmilllaw06_AggTurns.l0 k bt293.2.2.2.2 ([] : List (S44)) (wrap64 ((bt293.2.2.2.2.length : Int) - 1)) bt293.2.2.1 bt293.2.2.2.1 bt320.1 bt320.2.1 bt320.2.2 bt326.1 bt326.2.1 bt326.2.2 bt332.1 bt332.2.1 bt332.2.2))))))) else (some false))
def gristmilllaw06_AggTurns.T15 : Bool × List (List Nat × List Nat) := (true, [([], []), ([], []), ([], []), ([0, 1, 2], [0, 1, 2]), ([], []), ([], []), ([], []), ([4, 5, 6, 3], [4, 5, 6]), ([3, 7, 7], [3, 7]), ([8, 8, 0, 1, 2, 3, 4, 5, 6, 7, 8], [8])])
def gristmilllaw06_AggTurns.B15 : List Nat := [0, 0, 0, 7, 0, 0, 0, 127, 255, 511]
theorem gristmilllaw06_AggTurns.tab15 : rtab .any (opsOf Try.f5 15) = gristmilllaw06_AggTurns.T15 := by kernel_rfl
theorem gristmilllaw06_AggTurns.bits15 : waitsOk gristmilllaw06_AggTurns.T15.2 gristmilllaw06_AggTurns.B15 = true := by kernel_rfl
def gristmilllaw06_AggTurns.T16 : Bool × List (List Nat × List Nat) := (true, [([], []), ([], []), ([], []), ([], []), ([1, 2, 3], [1, 2, 3]), ([], []), ([0, 4, 5, 4], [0, 4, 5]), ([], []), ([], []), ([], []), ([], []), ([], []), ([9, 10, 11, 6], [9, 10, 11]), ([7, 8, 12, 12], [7, 8, 12]), ([6, 13, 13], [6, 13]), ([14, 14, 0, 1, 2, 3, 4, 5, 6, 7, 8, 9, 10, 11, 12, 13, 14], [14])])
def gristmilllaw06_AggTurns.B16 : List Nat := [0, 0, 0, 0, 14, 0, 63, 0, 0, 0, 0, 0, 3711, 8191, 16383, 32767]
theorem gristmilllaw06_AggTurns.tab16 : rtab .any (opsOf Try.f5 16) = gristmilllaw06_AggTurns.T16 := by kernel_rfl
theorem gristmilllaw06_AggTurns.bits16 : waitsOk gristmilllaw06_AggTurns.T16.2 gristmilllaw06_AggTurns.B16 = true := by kernel_rfl
def gristmilllaw06_AggTurns.T17 : Bool × List (List Nat × List Nat) := (true, [([], []), ([0], [0]), ([1], [1]), ([1, 2], [1, 2]), ([3, 1], [3]), ([4], [4]), ([4], [4]), ([5, 6, 4, 4], [4, 5, 6]), ([4], [4]), ([7, 8, 7, 4], [4, 7, 8]), ([4, 9], [4, 9]), ([10, 9], [10]), ([11], [11]), ([11], [11]), ([11], [11]), ([14, 11, 11], [11, 14]), ([12, 13, 15, 15, 11], [11, 12, 13, 15]), ([11], [11]), ([16, 17, 16, 11], [11, 16, 17]), ([11, 18], [11, 18]), ([19, 18], [19]), ([20], [20]), ([20], [20]), ([22, 20, 20], [20, 22]), ([20], [20]), ([21, 23, 24, 23, 20], [20, 21, 23, 24]), ([20], [20]), ([25, 26, 25, 20], [20, 25, 26]), ([20, 27], [20, 27]), ([28, 27, 0, 1, 2, 3, 4, 5, 6, 7, 8, 9, 10, 11, 12, 13, 14, 15, 16, 17, 18, 19, 20, 21, 22, 23, 24, 25, 26, 27, 28], [28])])
def gristmilllaw06_AggTurns.B17 : List Nat := [0, 1, 3, 7, 15, 31, 31, 127, 31, 511, 1023, 2047, 4095, 4095, 4095, 20479, 65535, 4095, 262143, 524287, 1048575, 2097151, 2097151, 6291455, 2097151, 33554431, 2097151, 134217727, 268435455, 536870911]
theorem gristmilllaw06_AggTurns.tab17 : rtab .any (opsOf Try.f5 17) = gristmilllaw06_AggTurns.T17 := by kernel_rfl
theorem gristmilllaw06_AggTurns.bits17 : waitsOk gristmilllaw06_AggTurns.T17.2 gristmilllaw06_AggTurns.B17 = true := by kernel_rfl
end Go.Proofs.Ytmjhgeinhhhodaa.P
end
