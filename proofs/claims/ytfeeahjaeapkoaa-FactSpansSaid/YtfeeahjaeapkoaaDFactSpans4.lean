/- Texts of this repo, joined, without what this claim does not use: FDel2, FBagQ, FBag1, FFlat, FBagA, FSym, FSwap, FRot, FSym1, FSym2, FSym3, FBlk, FStab2, FSortK, FExtBag, P2, FExtLong. -/
import Derived.Test.YtfeeahjaeapkoaaDFactSpans1
import Derived.Test.YtfeeahjaeapkoaaDFactSpans2
import Derived.Test.YtfeeahjaeapkoaaDFactSpans3
section
namespace Go.Proofs.Ytfeeahjaeapkoaa.Ext
set_option linter.unusedVariables false
set_option linter.unusedSimpArgs false
open Go.RowKit Go.Proofs.YtfeeahjaeapkoaaW.PrintWords Go.Proofs.YtfeeahjaeapkoaaW.PrintLast Go.Proofs.YtfeeahjaeapkoaaW.PrintMore Go.Proofs.Ytfeeahjaeapkoaa.Lib Go.Proofs.Ytfeeahjaeapkoaa.P
theorem grown_refl (w : World) (r : Option Nat) : w.grownBy w r := ⟨rfl, rfl, rfl, Nat.le_refl _, fun _ _ _ => rfl⟩
theorem zero4 (a b c d : Value) : ∀ n : Nat, (Builtin.zeroCells #[a, b, c, d] n).toList = (List.replicate n [a, b, c, d]).flatten := by
  intro n
  have key : ∀ n : Nat, (List.range (n * 4)).map (fun i => (#[a, b, c, d] : Array Value)[i % 4]!) = (List.replicate n [a, b, c, d]).flatten := by
    intro n
    induction n with
    | zero => rfl
    | succ n ih =>
      rw [Nat.succ_mul, List.replicate_succ', List.flatten_append, ← ih, show n * 4 + 4 = n * 4 + 1 + 1 + 1 + 1 by omega]
      rw [List.range_succ, List.range_succ, List.range_succ, List.range_succ]
      simp only [List.map_append, List.append_assoc, List.map_cons, List.map_nil]
      rw [show n * 4 % 4 = 0 by omega, show (n * 4 + 1) % 4 = 1 by omega, show (n * 4 + 1 + 1) % 4 = 2 by omega, show (n * 4 + 1 + 1 + 1) % 4 = 3 by omega]
      rfl
  rw [← key n]
  unfold Builtin.zeroCells
  simp
theorem kq_clear {base : Nat} {ok : Nat → Prop} {g n c : Nat} {e : TypeId} : ∀ (k i : Nat) (w : World) (xs : List Q), i + k = n → kq.R e w base ok (.slice (some ⟨g, 0, none⟩) n c) xs →
    ∃ ys, kq.R e (w.setCells g (i * 4) (List.replicate k (encQ zQ)).flatten) base ok (.slice (some ⟨g, 0, none⟩) n c) ys ∧ ys.take i = xs.take i ∧ w.grownBy (w.setCells g (i * 4) (List.replicate k (encQ zQ)).flatten) (some g)
  | 0, i, w, xs, h, hr => ⟨xs, hr, rfl, ⟨rfl, rfl, rfl, Nat.le_refl _, fun _ _ _ => rfl⟩⟩
  | k + 1, i, w, xs, h, hr => by
    obtain ⟨r1, g1⟩ := kq_put hr i (by omega) zQ
    obtain ⟨ys, r2, e2, g2⟩ := kq_clear k (i + 1) _ _ (by omega) r1
    have hs : w.setCells g (i * 4) (List.replicate (k + 1) (encQ zQ)).flatten = (w.setCells g (i * 4) (encQ zQ)).setCells g ((i + 1) * 4) (List.replicate k (encQ zQ)).flatten := by
      rw [List.replicate_succ, List.flatten_cons, show (i + 1) * 4 = i * 4 + 1 + 1 + 1 + 1 by omega]
      rfl
    rw [hs]
    refine ⟨ys, r2, ?_, grown_trans g1 g2⟩
    have := congrArg (List.take i) e2
    rw [List.take_take, Nat.min_eq_left (Nat.le_succ i), List.take_take, Nat.min_eq_left (Nat.le_succ i), List.take_set_of_le (Nat.le_refl i)] at this
    exact this
theorem zero_many (w : World) : (zeroValue 40).run Try.prog w = .ok (.agg #[.int .i64 0, .slice none 0 0, .slice none 0 0, .int .u64 0]) w := by
  have hz : Try.t40.zero = some (.agg #[.int .i64 0, .slice none 0 0, .slice none 0 0, .int .u64 0]) := by kernel_rfl
  unfold zeroValue
  simp [hz]
theorem clear_many (w : World) (ty : TypeId) (g o n c : Nat) (hn : 0 < n) (hc : ∀ j, j < n * 4 → (w.cell? ⟨g, o + j, none⟩).isSome = true) (hf : ∀ j, j < n * 4 → w.frozen? ⟨g, o + j, none⟩ = false) :
    (Builtin.clear_ #[36] ty #[.slice (some ⟨g, o, none⟩) n c]).run Try.prog w = .ok (.tuple #[]) (w.setCells g o (List.replicate n (encQ zQ)).flatten) := by
  have hz : (Builtin.zeroCells (Value.agg #[.int .i64 0, .slice none 0 0, .slice none 0 0, .int .u64 0]).cells n).toList = (List.replicate n (encQ zQ)).flatten := zero4 _ _ _ _ n
  have hl : (List.replicate n (encQ zQ)).flatten.length = n * 4 := by
    rw [List.length_flatten, List.map_replicate, List.sum_replicate_nat]; rfl
  have hst := run_storeCells_cells (P := Try.prog) g o (List.replicate n (encQ zQ)).flatten 0 w (by rw [hl]; simpa using hc) (by rw [hl]; simpa using hf) (by
    intro v hv
    obtain ⟨l, h1, h2⟩ := List.mem_flatten.1 hv
    rw [List.eq_of_mem_replicate h1] at h2
    have h3 : v ∈ [Value.int .i64 0, .slice none 0 0, .slice none 0 0, .int .u64 0] := h2
    simp at h3
    rcases h3 with rfl | rfl | rfl <;> rfl)
  rw [Nat.add_zero] at hst
  obtain ⟨m, rfl⟩ : ∃ m, n = m + 1 := ⟨n - 1, by omega⟩
  simp [Builtin.clear_, run_underlying Try.underlying36, zero_many, hz, hst]
abbrev qA (q : Q) : Value := .agg #[.int .i64 q.1, .slice q.2.1.1 q.2.1.2.1 q.2.1.2.2, .slice q.2.2.1.1 q.2.2.1.2.1 q.2.2.1.2.2, .int .u64 q.2.2.2]
set_option maxRecDepth 100000 in
set_option maxHeartbeats 400000 in
theorem bag2_flat (q : Q) (w : World) : Calls Try.prog 49 (#[] ++ #[.agg #[.int .i64 q.1, .slice q.2.1.1 q.2.1.2.1 q.2.1.2.2, .slice q.2.2.1.1 q.2.2.1.2.1 q.2.2.1.2.2, .int .u64 q.2.2.2]] ++ #[]) w fun e w' => e = .returned (.bool (q.2.2.2 == 0)) ∧ Below w.heap.size w w' := by
  obtain ⟨b, hb⟩ : ∃ b, (q.2.2.2 == 0) = b := ⟨_, rfl⟩
  show Calls Try.prog 49 #[.agg #[.int .i64 q.1, .slice q.2.1.1 q.2.1.2.1 q.2.1.2.2, .slice q.2.2.1.1 q.2.2.1.2.1 q.2.2.1.2.2, .int .u64 q.2.2.2]] w fun e w' => e = .returned (.bool (q.2.2.2 == 0)) ∧ Below w.heap.size w w'
  go_enter Try.func49, Try.ntmps49
  go_wp2_with (first | (((with_reducible refine gate_dst (N := 1) rfl ?_); refine box_event ?hg (N := 1) ?hd (cs := #[.int .i64 q.1, .slice q.2.1.1 q.2.1.2.1 q.2.1.2.2, .slice q.2.2.1.1 q.2.2.1.2.1 q.2.2.1.2.2, .int .u64 q.2.2.2]) (t := 40) ?hr ?_; (case hd => rfl); (case hg => rfl); (case hr => first | (go_simp; done) | (go_simp; rfl)); intro g1 hg w1 hbox hb; have GE1 := Aside0.mk (Nat.le_of_eq hg.symm); have BK1 := Aside0.mk hbox; have HX1 := Aside0.mk hb; clear hg hbox hb); (have hg1_0 : w1.cell? ⟨g1, 0, none⟩ = some (.int .i64 q.1) := (blk_cell BK1.out 0).trans rfl; have hfg1_0 := blk_frozen BK1.out 0; have hg1_1 : w1.cell? ⟨g1, 1, none⟩ = some (.slice q.2.1.1 q.2.1.2.1 q.2.1.2.2) := (blk_cell BK1.out 1).trans rfl; have hfg1_1 := blk_frozen BK1.out 1; have hg1_2 : w1.cell? ⟨g1, 2, none⟩ = some (.slice q.2.2.1.1 q.2.2.1.2.1 q.2.2.1.2.2) := (blk_cell BK1.out 2).trans rfl; have hfg1_2 := blk_frozen BK1.out 2; have hg1_3 : w1.cell? ⟨g1, 3, none⟩ = some (.int .u64 q.2.2.2) := (blk_cell BK1.out 3).trans rfl; have hfg1_3 := blk_frozen BK1.out 3)) | fail)
  go_ret
  exact ⟨by rw [hb]; rfl, HX1.out⟩
inductive RelI (w : World) (g n c : Nat) (xs : List Q) (v : Value) (w' : World) : Prop
  | mk (i : Nat) (e : v = .int .i64 i) (hi : i ≤ n) (hb : Below w.heap.size w w') (hz : ∀ j, j < i → ((xs.getD j zQ).2.2.2 == 0) = false)
set_option maxRecDepth 100000 in
set_option maxHeartbeats 1600000 in
theorem idx_flat (g n c : Nat) (xs : List Q) (w : World) (base : Nat) (ok : Nat → Prop) (hrow : kq.R 40 w base ok (.slice (some ⟨g, 0, none⟩) n c) xs) (hn : n ≤ 1152921504606846976) :
    Calls Try.prog 55 #[.slice (some ⟨g, 0, none⟩) n c, .func (.func 49) #[] #[]] w fun e w' => ∃ r : Int, e = .returned (.int .i64 r) ∧ Below w.heap.size w w' ∧ ((r = -1 ∧ ∀ j, j < n → ((xs.getD j zQ).2.2.2 == 0) = false) ∨ ∃ i : Nat, r = i ∧ i < n ∧ ((xs.getD i zQ).2.2.2 == 0) = true ∧ ∀ j, j < i → ((xs.getD j zQ).2.2.2 == 0) = false) := by
  have HR := Aside0.mk hrow
  clear hrow
  go_enter Try.func55, Try.ntmps55
  go_wp2_with fail
  go_loopw [8] (fun v8 w' => RelI w g n c xs v8 w') (fun v8 _ => n - (intOf v8).toNat)
  case atStart => exact .mk 0 rfl (Nat.zero_le _) (Below.refl _ _) (fun j h => absurd h (Nat.not_lt_zero _))
  case round =>
    obtain ⟨i, rfl, hi, hB, hZ⟩ := hrel
    have HB := Aside0.mk hB
    have HZ := Aside0.mk hZ
    clear hB hZ
    by_cases hlt : i < n
    · have hii : (i : Int) < (n : Int) := by omega
      obtain ⟨d0, d1, d2, d3⟩ := kq_get (Kd.R_below HR.out HB.out) i hlt
      simp only [encSL] at d1 d2
      generalize hq : xs.getD i zQ = q at *
      have HQ := Aside0.mk hq
      have HC := Aside0.mk (bag2_flat q)
      clear hq
      generalize hb : (q.2.2.2 == 0) = b at HC
      have HBq := Aside0.mk hb
      clear hb
      go_wp2_with (first
        | ((with_reducible refine gate_dst (N := 16) rfl ?_); refine goesLv_ (some 16) rfl rfl Try.func49 rfl rfl #[.agg #[.int .i64 q.1, .slice q.2.1.1 q.2.1.2.1 q.2.1.2.2, .slice q.2.2.1.1 q.2.2.1.2.1 q.2.2.1.2.2, .int .u64 q.2.2.2]] rfl rfl (by simp only [List.map_toArray, List.map_cons, List.map_nil]; rfl) ?_; with_reducible refine (HC.out _).mono ?_; rintro e w3 ⟨rfl, hb⟩; refine ⟨_, rfl, ?_⟩; have HB3 := Aside0.mk (below_then HB.out HB.out.size hb); clear hb; cases b)
        | fail)
      · go_roundw
        case rel => exact .mk (i + 1) (by go_num) (by omega) HB3.out (fun j hj => by
          by_cases e : j = i
          · subst e; rw [HQ.out]; exact HBq.out
          · exact HZ.out j (by omega))
        case measure => simp [intOf]; omega
      · go_ret
        exact ⟨i, rfl, HB3.out, .inr ⟨i, rfl, hlt, by rw [HQ.out]; exact HBq.out, HZ.out⟩⟩
    · obtain rfl : i = n := by omega
      have hii : decide (i < i) = false := decide_eq_false (by omega)
      clear hlt
      go_wp2_with fail
      go_ret
      exact ⟨-1, rfl, HB.out, .inl ⟨rfl, HZ.out⟩⟩
inductive RelDel (w : World) (base : Nat) (g n c : Nat) (xs : List Q) (v1 v2 : Value) (w' : World) : Prop
  | mk (i j : Nat) (ys : List Q) (e1 : v1 = .int .i64 i) (e2 : v2 = .int .i64 j) (hij : i < j) (hj : j ≤ n) (hrow : kq.R 40 w' base (fun _ => True) (.slice (some ⟨g, 0, none⟩) n c) ys) (hg : w.grownBy w' (some g))
    (hk : ys.take i = (xs.take j).filter (fun q => !(q.2.2.2 == 0))) (hr : ∀ p, j ≤ p → ys.getD p zQ = xs.getD p zQ)
theorem take_getD {xs : List Q} {j : Nat} (h : j < xs.length) : xs.take (j + 1) = xs.take j ++ [xs.getD j zQ] := by
  rw [List.take_succ_eq_append_getElem h, List.getD_eq_getElem?_getD, List.getElem?_eq_getElem h]; rfl
theorem filter_all {xs : List Q} {i : Nat} (hi : i ≤ xs.length) (h : ∀ j, j < i → ((xs.getD j zQ).2.2.2 == 0) = false) : (xs.take i).filter (fun q => !(q.2.2.2 == 0)) = xs.take i := by
  rw [List.filter_eq_self]
  intro q hq
  obtain ⟨j, hj, rfl⟩ := List.getElem_of_mem hq
  rw [List.length_take] at hj
  have := h j (by omega)
  rw [List.getD_eq_getElem?_getD, List.getElem?_eq_getElem (by omega)] at this
  rw [List.getElem_take]
  simpa using this
set_option maxRecDepth 100000 in
set_option maxHeartbeats 1600000 in
theorem del_flat (g n c : Nat) (xs : List Q) (w : World) (base : Nat) (hrow : kq.R 40 w base (fun _ => True) (.slice (some ⟨g, 0, none⟩) n c) xs) (hn : n ≤ 1152921504606846976) :
    Calls Try.prog 48 #[.slice (some ⟨g, 0, none⟩) n c, .func (.func 49) #[] #[]] w fun e w' => e = .returned (.slice (some ⟨g, 0, none⟩) (xs.filter (fun q => !(q.2.2.2 == 0))).length c) ∧ kq.R 40 w' base (fun _ => True) (.slice (some ⟨g, 0, none⟩) (xs.filter (fun q => !(q.2.2.2 == 0))).length c) (xs.filter (fun q => !(q.2.2.2 == 0))) ∧ w.grownBy w' (some g) := by
  have HR := Aside0.mk hrow
  have hl : n = xs.length := (Kd.R_reads' hrow).1
  have hnc : n ≤ c := by have := (Kd.R_reads' hrow).2.1; omega
  have HL := Aside0.mk hl
  have HI := Aside0.mk (idx_flat g n c xs w base _ hrow hn)
  clear hrow hl
  go_enter Try.func48, Try.ntmps48
  go_upto_region 2 with (first | (go_at_call 55; refine HI.out.mono ?_; rintro e w2 ⟨r, rfl, hb, hr⟩; have HB := Aside0.mk hb; have HRr := Aside0.mk hr; clear hb hr HI) | fail)
  rcases HRr.out with ⟨rfl, hall⟩ | ⟨i, rfl, hi, hz, hall⟩
  · have HA := Aside0.mk (show xs.filter (fun q => !(q.2.2.2 == 0)) = xs by
      have := filter_all (xs := xs) (i := xs.length) (Nat.le_refl _) (fun j hj => hall j (by rw [HL.out]; exact hj))
      rwa [List.take_length] at this)
    clear hall HRr
    go_wp2_with fail
    go_ret
    rw [HA.out, ← HL.out]
    exact ⟨rfl, Kd.R_below HR.out HB.out, grown_below (grown_refl w _) HB.out⟩
  · have hne : ((i : Int) == -1) = false := beq_eq_false_iff_ne.2 (by omega)
    have HS := Aside0.mk (show RelDel w base g n c xs (.int .i64 i) (.int .i64 (i + 1 : Nat)) w2 from .mk i (i + 1) xs rfl rfl (Nat.lt_succ_self i) hi (Kd.R_below HR.out HB.out) (grown_below (grown_refl w _) HB.out) (by
      rw [take_getD (by rw [← HL.out]; exact hi), List.filter_append, filter_all (by rw [← HL.out]; omega) hall, List.filter_cons, hz]
      simp) (fun _ _ => rfl))
    clear hall HRr hz
    go_wp2_with fail
    go_loopw [5, 6] (fun v5 v6 w' => RelDel w base g n c xs v5 v6 w') (fun _ v6 _ => n - (intOf v6).toNat)
    case atStart => exact HS.out
    case round =>
      clear HS HB HR hne hi
      obtain ⟨k, j, ys, rfl, rfl, hkj, hj, hrow, hg, hk, hr⟩ := hrel
      have HR := Aside0.mk hrow
      have HG := Aside0.mk hg
      have HK := Aside0.mk hk
      have HR2 := Aside0.mk hr
      have hy := HR.out
      have HYl := Aside0.mk (show ys.length = n from (Kd.R_reads' hrow).1.symm)
      clear hrow hg hk hr hy
      by_cases hlt : j < n
      · have hii : (j : Int) < (n : Int) := by omega
        have hkk : (k : Int) < (n : Int) := by omega
        obtain ⟨d0, d1, d2, d3⟩ := kq_get HR.out j hlt
        obtain ⟨c0, c1, c2, c3⟩ := kq_get HR.out k (by omega)
        simp only [encSL] at d1 d2 c1 c2
        have HQ := Aside0.mk (HR2.out j (Nat.le_refl _))
        have HT := Aside0.mk (show (xs.take (j + 1)).filter (fun q => !(q.2.2.2 == 0)) = ys.take k ++ if ((ys.getD j zQ).2.2.2 == 0) = true then [] else [ys.getD j zQ] by
          rw [take_getD (by rw [← HL.out]; exact hlt), List.filter_append, ← HK.out, List.filter_cons, HQ.out]
          cases ((xs.getD j zQ).2.2.2 == 0) <;> rfl)
        have HP := Aside0.mk (fun (w' : World) (h : kq.R 40 w' base (fun _ => True) (.slice (some ⟨g, 0, none⟩) n c) ys) => kq_put h k (by omega) (ys.getD j zQ))
        generalize ys.getD j zQ = q at *
        generalize ys.getD k zQ = p at *
        have HC := Aside0.mk (bag2_flat q)
        generalize hb : (q.2.2.2 == 0) = b at HC HT
        have HBq := Aside0.mk hb
        clear hb
        obtain ⟨cs3, hcs3⟩ := Kd.R_typed HR.out g rfl
        go_wp2_with (first
          | (((with_reducible refine gate_dst (N := 7) rfl ?_); refine box_event ?hg (N := 7) ?hd (cs := #[.int .i64 0, .slice none 0 0, .slice none 0 0, .int .u64 0]) (t := 40) ?hr ?_; (case hd => rfl); (case hg => rfl); (case hr => first | (go_simp; done) | (go_simp; rfl)); intro g1 hg w1 hbox hb; have GE1 := Aside0.mk (Nat.le_of_eq hg.symm); have BK1 := Aside0.mk hbox; have HX1 := Aside0.mk hb; clear hg hbox hb); (have hg1_0 : w1.cell? ⟨g1, 0, none⟩ = some (.int .i64 0) := (blk_cell BK1.out 0).trans rfl; have hfg1_0 := blk_frozen BK1.out 0; have hg1_1 : w1.cell? ⟨g1, 1, none⟩ = some (.slice none 0 0) := (blk_cell BK1.out 1).trans rfl; have hfg1_1 := blk_frozen BK1.out 1; have hg1_2 : w1.cell? ⟨g1, 2, none⟩ = some (.slice none 0 0) := (blk_cell BK1.out 2).trans rfl; have hfg1_2 := blk_frozen BK1.out 2; have hg1_3 : w1.cell? ⟨g1, 3, none⟩ = some (.int .u64 0) := (blk_cell BK1.out 3).trans rfl; have hfg1_3 := blk_frozen BK1.out 3))
          | ((with_reducible refine gate_dst (N := 28) rfl ?_); refine goesLv_ (some 28) rfl rfl Try.func49 rfl rfl #[.agg #[.int .i64 q.1, .slice q.2.1.1 q.2.1.2.1 q.2.1.2.2, .slice q.2.2.1.1 q.2.2.1.2.1 q.2.2.1.2.2, .int .u64 q.2.2.2]] rfl rfl (by simp only [List.map_toArray, List.map_cons, List.map_nil]; rfl) ?_; have HXs := Aside0.mk (show Below wr.heap.size wr ((((w1.setCell ⟨g1, 0, none⟩ (.int .i64 (q).1)).setCell ⟨g1, 1, none⟩ (.slice (q).2.1.1 (q).2.1.2.1 (q).2.1.2.2)).setCell ⟨g1, 2, none⟩ (.slice (q).2.2.1.1 (q).2.2.1.2.1 (q).2.2.1.2.2)).setCell ⟨g1, 3, none⟩ (.int .u64 (q).2.2.2)) from below_set (below_set (below_set (below_set HX1.out GE1.out) GE1.out) GE1.out) GE1.out); have BKs := Aside0.mk (show (((((w1.setCell ⟨g1, 0, none⟩ (.int .i64 (q).1)).setCell ⟨g1, 1, none⟩ (.slice (q).2.1.1 (q).2.1.2.1 (q).2.1.2.2)).setCell ⟨g1, 2, none⟩ (.slice (q).2.2.1.1 (q).2.2.1.2.1 (q).2.2.1.2.2)).setCell ⟨g1, 3, none⟩ (.int .u64 (q).2.2.2))).heap[g1]? = some (.cells #[.int .i64 q.1, .slice q.2.1.1 q.2.1.2.1 q.2.1.2.2, .slice q.2.2.1.1 q.2.2.1.2.1 q.2.2.1.2.2, .int .u64 q.2.2.2] 40 (0, 0)) from (blk_set (blk_set (blk_set (blk_set BK1.out 0 _) 1 _) 2 _) 3 _)); clear hg1_0 hfg1_0 hg1_1 hfg1_1 hg1_2 hfg1_2 hg1_3 hfg1_3; generalize ((((w1.setCell ⟨g1, 0, none⟩ (.int .i64 (q).1)).setCell ⟨g1, 1, none⟩ (.slice (q).2.1.1 (q).2.1.2.1 (q).2.1.2.2)).setCell ⟨g1, 2, none⟩ (.slice (q).2.2.1.1 (q).2.2.1.2.1 (q).2.2.1.2.2)).setCell ⟨g1, 3, none⟩ (.int .u64 (q).2.2.2)) = w2 at *; refine (HC.out _).mono ?_; rintro e w3 ⟨rfl, hb⟩; refine ⟨_, rfl, ?_⟩; have HX3 := Aside0.mk (below_then HXs.out HXs.out.size hb); have HR3 := Aside0.mk (Kd.R_below HR.out HX3.out); have BK3 := Aside0.mk (blk_below BKs.out hb); clear hb; (have hg1_0 : w3.cell? ⟨g1, 0, none⟩ = some (.int .i64 (q).1) := (blk_cell BK3.out 0).trans rfl; have hfg1_0 := blk_frozen BK3.out 0; have hg1_1 : w3.cell? ⟨g1, 1, none⟩ = some (.slice (q).2.1.1 (q).2.1.2.1 (q).2.1.2.2) := (blk_cell BK3.out 1).trans rfl; have hfg1_1 := blk_frozen BK3.out 1; have hg1_2 : w3.cell? ⟨g1, 2, none⟩ = some (.slice (q).2.2.1.1 (q).2.2.1.2.1 (q).2.2.1.2.2) := (blk_cell BK3.out 2).trans rfl; have hfg1_2 := blk_frozen BK3.out 2; have hg1_3 : w3.cell? ⟨g1, 3, none⟩ = some (.int .u64 (q).2.2.2) := (blk_cell BK3.out 3).trans rfl; have hfg1_3 := blk_frozen BK3.out 3); replace c0 := pw_cell_below HX3.out c0; replace c1 := pw_cell_below HX3.out c1; replace c2 := pw_cell_below HX3.out c2; replace c3 := pw_cell_below HX3.out c3; have hfz : ∀ o, w3.frozen? ⟨g, o, none⟩ = false := fun o => blk_frozen (blk_below hcs3 HX3.out) o; cases b)
          | fail)
        · have HP3 := Aside0.mk (HP.out w3 HR3.out)
          rw [set4] at HP3
          go_roundw
          case rel =>
            exact .mk (k + 1) (j + 1) (ys.set k q) (by go_num) (by go_num) (by omega) (by omega) HP3.out.1 (grown_trans (grown_below HG.out HX3.out) HP3.out.2) (by
              rw [HT.out, take_getD (by rw [List.length_set, HYl.out]; omega), List.take_set_of_le (Nat.le_refl k), getD_set_eq _ _ _ (by rw [HYl.out]; omega)]
              rfl) (fun p hp => by rw [getD_set_ne _ _ _ _ (by omega)]; exact HR2.out p (by omega))
          case measure => simp [intOf]; omega
        · go_roundw
          case rel => exact .mk k (j + 1) ys rfl (by go_num) (by omega) (by omega) HR3.out (grown_below HG.out HX3.out) (by rw [HT.out, if_pos rfl, List.append_nil]) (fun p hp => HR2.out p (by omega))
          case measure => simp [intOf]; omega
      · obtain rfl : j = n := by omega
        have hii : decide (j < j) = false := decide_eq_false (by omega)
        obtain ⟨cs3, hcs3⟩ := Kd.R_typed HR.out g rfl
        obtain ⟨zs, hz1, hz2, hz3⟩ := kq_clear (j - k) k wr ys (by omega) HR.out
        have HZ1 := Aside0.mk hz1
        have HZ2 := Aside0.mk (hz2.trans (HK.out.trans (show _ = xs.filter (fun q => !(q.2.2.2 == 0)) by rw [HL.out, List.take_length])))
        have HZ3 := Aside0.mk (grown_trans HG.out hz3)
        have hcl : ∀ ty, (Builtin.clear_ #[36] ty #[.slice (some ⟨g, k * 4, none⟩) (j - k) (c - k)]).run Try.prog wr = .ok (.tuple #[]) (wr.setCells g (k * 4) (List.replicate (j - k) (encQ zQ)).flatten) := fun ty => clear_many wr ty g (k * 4) (j - k) (c - k) (by omega) (fun p hp => by
          have hlt : (k * 4 + p) / 4 < j := by omega
          obtain ⟨e0, e1, e2, e3⟩ := kq_get HR.out ((k * 4 + p) / 4) hlt
          have hm : (k * 4 + p) % 4 = 0 ∨ (k * 4 + p) % 4 = 1 ∨ (k * 4 + p) % 4 = 2 ∨ (k * 4 + p) % 4 = 3 := by omega
          rcases hm with h | h | h | h
          · rw [show k * 4 + p = (k * 4 + p) / 4 * 4 by omega, e0]; rfl
          · rw [show k * 4 + p = (k * 4 + p) / 4 * 4 + 1 by omega, e1]; rfl
          · rw [show k * 4 + p = (k * 4 + p) / 4 * 4 + 2 by omega, e2]; rfl
          · rw [show k * 4 + p = (k * 4 + p) / 4 * 4 + 3 by omega, e3]; rfl) (fun p _ => blk_frozen hcs3 _)
        have hkc : k < c := by omega
        have hkj2 : (k : Int) ≤ (j : Int) := by omega
        have HKl := Aside0.mk (show k = (xs.filter (fun q => !(q.2.2.2 == 0))).length by
          have := congrArg List.length (HK.out.trans (show _ = xs.filter (fun q => !(q.2.2.2 == 0)) by rw [HL.out, List.take_length]))
          rw [List.length_take, HYl.out] at this
          omega)
        clear hz1 hz2 hz3 hlt HR HG HK HR2 HYl
        generalize wr.setCells g (k * 4) (List.replicate (j - k) (encQ zQ)).flatten = w5 at *
        go_wp2_with fail
        go_ret
        rw [← HKl.out, ← HZ2.out]
        exact ⟨rfl, Kd.R_take HZ1.out (by have := (Kd.R_reads' HZ1.out).1; omega), HZ3.out⟩
end Go.Proofs.Ytfeeahjaeapkoaa.Ext
end

section
namespace Go.Proofs.Ytfeeahjaeapkoaa.Ext
set_option linter.unusedVariables false
set_option linter.unusedSimpArgs false
open Go.RowKit Go.Proofs.YtfeeahjaeapkoaaW.PrintWords Go.Proofs.YtfeeahjaeapkoaaW.PrintLast Go.Proofs.YtfeeahjaeapkoaaW.PrintMore Go.Proofs.Ytfeeahjaeapkoaa.Lib Go.Proofs.Ytfeeahjaeapkoaa.P
def Two (R : Q → M → Prop) : List Q → List M → Prop
  | [], [] => True
  | q :: a, x :: b => R q x ∧ Two R a b
  | _, _ => False
theorem Two.len {R : Q → M → Prop} : ∀ {a : List Q} {b : List M}, Two R a b → b.length = a.length
  | [], [], _ => rfl
  | q :: a, x :: b, h => by rw [List.length_cons, List.length_cons, h.2.len]
theorem Two.get {R : Q → M → Prop} : ∀ {a : List Q} {b : List M}, Two R a b → ∀ j, j < b.length → R (a.getD j zQ) (b.getD j zM)
  | q :: a, x :: b, h, 0, _ => h.1
  | q :: a, x :: b, h, j + 1, hj => h.2.get j (by simpa using hj)
  | [], [], _, j, hj => absurd hj (Nat.not_lt_zero _)
theorem Two.of {R : Q → M → Prop} : ∀ {a : List Q} {b : List M}, b.length = a.length → (∀ j, j < b.length → R (a.getD j zQ) (b.getD j zM)) → Two R a b
  | [], [], _, _ => trivial
  | q :: a, x :: b, h, hr => ⟨hr 0 (Nat.zero_lt_succ _), Two.of (by simpa using h) (fun j hj => hr (j + 1) (by simpa using hj))⟩
theorem Two.mono {R S : Q → M → Prop} (hs : ∀ q x, R q x → S q x) : ∀ {a : List Q} {b : List M}, Two R a b → Two S a b
  | [], [], _ => trivial
  | q :: a, x :: b, h => ⟨hs _ _ h.1, h.2.mono hs⟩
theorem Two.filter {R : Q → M → Prop} {p : Q → Bool} {r : M → Bool} (hp : ∀ q x, R q x → p q = r x) : ∀ {a : List Q} {b : List M}, Two R a b → Two R (a.filter p) (b.filter r)
  | [], [], _ => trivial
  | q :: a, x :: b, h => by
    rw [List.filter_cons, List.filter_cons, hp q x h.1]
    split
    · exact ⟨h.1, h.2.filter hp⟩
    · exact h.2.filter hp
theorem getD_take' (ys : List Q) (u j : Nat) (h : j < u) : (ys.take u).getD j zQ = ys.getD j zQ := by
  rw [List.getD_eq_getElem?_getD, List.getElem?_take_of_lt h, ← List.getD_eq_getElem?_getD]
def keepM (x : M) : Bool := !(x.2 == 0)
def bagOf (l : List M) : List M := (bagB [] l).filter keepM
theorem bag_end {w w2 : World} {base g n c : Nat} {ys : List Q} {b : List M} (hrow : kq.R 40 w2 base (fun _ => True) (.slice (some ⟨g, 0, none⟩) ((ys.take b.length).filter (fun q => !(q.2.2.2 == 0))).length c) ((ys.take b.length).filter (fun q => !(q.2.2.2 == 0)))) (hg : w.grownBy w2 (some g)) (hl : b.length ≤ ys.length) (ho : ∀ j, j < b.length → OwnD w base g (ys.getD j zQ) (b.getD j zM)) :
    k40.R 40 w2 base (fun _ => True) (.slice (some ⟨g, 0, none⟩) ((ys.take b.length).filter (fun q => !(q.2.2.2 == 0))).length c) ((b.filter keepM).map s40) := by
  have h1 : Two (OwnD w base g) (ys.take b.length) b := Two.of (by rw [List.length_take]; omega) (fun j hj => by rw [getD_take' _ _ _ hj]; exact ho j hj)
  have h2 : Two (OwnD w2 base g) ((ys.take b.length).filter (fun q => !(q.2.2.2 == 0))) (b.filter keepM) := (h1.filter (fun q x h => by show (!(q.2.2.2 == 0)) = !(x.2 == 0); rw [h.n])).mono (fun q x h => h.grown hg)
  exact own_row hrow h2.len (fun j hj => h2.get j hj)
def SortUpto (K : Nat) : Prop := ∀ (cf : Q → Q → Int) (hp : Pre cf) (f : FuncId) (fn : Func) (hf : Try.prog.funcs[f]? = some fn) (hname : (fn.name == "runtime.NumGoroutine") = false) (hbody : fn.body.isSome = true) (g c n : Nat) (xs : List Q) (w : World) (base : Nat) (ok : Nat → Prop)
    (hrow : kq.R 40 w base ok (.slice (some ⟨g, 0, none⟩) n c) xs) (hn : n ≤ K) (hcmp : CmpOk f cf w g xs),
    Calls Try.prog 45 #[.slice (some ⟨g, 0, none⟩) n c, .func (.func f) #[] #[]] w fun e w' => e = .returned (.tuple #[]) ∧ ∃ zs, RS w w' base ok g n c xs zs ∧ zs.Pairwise (fun x y => ¬ cf y x < 0)
set_option maxRecDepth 100000 in
set_option maxHeartbeats 400000 in
theorem ins_nil (fv : Value) (w : World) : Calls Try.prog 57 #[.slice none 0 0, .int .i64 0, .int .i64 0, fv] w fun e w' => e = .returned (.tuple #[]) ∧ w' = w := by
  go_enter Try.func57, Try.ntmps57
  go_wp2_with fail
  go_loopw [8] (fun v8 w' => v8 = .int .i64 1 ∧ w = w') (fun _ _ => 0)
  case atStart => exact ⟨rfl, rfl⟩
  case round =>
    obtain ⟨rfl, rfl⟩ := hrel
    go_wp2_with fail
    go_end0
    exact ⟨rfl, rfl⟩
set_option maxRecDepth 100000 in
set_option maxHeartbeats 400000 in
theorem stab_nil (fv : Value) (w : World) : Calls Try.prog 52 #[.slice none 0 0, .int .i64 0, fv] w fun e w' => e = .returned (.tuple #[]) ∧ w' = w := by
  go_enter Try.func52, Try.ntmps52
  go_wp2_with fail
  go_loopw [7, 8] (fun v7 v8 w' => v7 = .int .i64 0 ∧ v8 = .int .i64 20 ∧ w = w') (fun _ _ _ => 0)
  case atStart => exact ⟨rfl, rfl, rfl⟩
  case round =>
    obtain ⟨rfl, rfl, rfl⟩ := hrel
    go_wp2_with (first | (go_at_call 57; refine (ins_nil _ _).mono ?_; rintro e w2 ⟨rfl, rfl⟩) | fail)
    go_loopw [6] (fun v6 w' => v6 = .int .i64 20 ∧ w2 = w') (fun _ _ => 0)
    case atStart => exact ⟨rfl, rfl⟩
    case round =>
      obtain ⟨rfl, rfl⟩ := hrel
      go_wp2_with fail
      go_end0
      exact ⟨rfl, rfl⟩
set_option maxRecDepth 100000 in
set_option maxHeartbeats 400000 in
theorem sort_nil (fv : Value) (w : World) : Calls Try.prog 45 #[.slice none 0 0, fv] w fun e w' => e = .returned (.tuple #[]) ∧ w' = w := by
  go_enter Try.func45, Try.ntmps45
  go_wp2_with (first | (go_at_call 52; refine (stab_nil _ _).mono ?_; rintro e w2 ⟨rfl, rfl⟩) | fail)
  go_end0
  exact ⟨rfl, rfl⟩
set_option maxRecDepth 100000 in
set_option maxHeartbeats 400000 in
theorem idx_nil (fv : Value) (w : World) : Calls Try.prog 55 #[.slice none 0 0, fv] w fun e w' => e = .returned (.int .i64 (-1)) ∧ w' = w := by
  go_enter Try.func55, Try.ntmps55
  go_wp2_with fail
  go_loopw [8] (fun v8 w' => v8 = .int .i64 0 ∧ w = w') (fun _ _ => 0)
  case atStart => exact ⟨rfl, rfl⟩
  case round =>
    obtain ⟨rfl, rfl⟩ := hrel
    go_wp2_with fail
    go_ret
    exact ⟨rfl, rfl⟩
set_option maxRecDepth 100000 in
set_option maxHeartbeats 400000 in
theorem del_nil (fv : Value) (w : World) : Calls Try.prog 48 #[.slice none 0 0, fv] w fun e w' => e = .returned (.slice none 0 0) ∧ w' = w := by
  go_enter Try.func48, Try.ntmps48
  go_wp2_with (first | (go_at_call 55; refine (idx_nil _ _).mono ?_; rintro e w2 ⟨rfl, rfl⟩) | fail)
  go_ret
  exact ⟨rfl, rfl⟩
end Go.Proofs.Ytfeeahjaeapkoaa.Ext
end

section
namespace Go.Proofs.Ytfeeahjaeapkoaa.Ext
set_option linter.unusedVariables false
set_option linter.unusedSimpArgs false
open Go.RowKit Go.Proofs.YtfeeahjaeapkoaaW.PrintWords Go.Proofs.YtfeeahjaeapkoaaW.PrintLast Go.Proofs.YtfeeahjaeapkoaaW.PrintMore Go.Proofs.Ytfeeahjaeapkoaa.Lib Go.Proofs.Ytfeeahjaeapkoaa.P
theorem infoMany : (Try.prog.info? 40).map (fun i => (i.zero, i.size, i.bytes)) = some (some (.agg #[.int .i64 0, .slice none 0 0, .slice none 0 0, .int .u64 0]), 4, 64) := by kernel_rfl
set_option maxRecDepth 100000 in
set_option maxHeartbeats 400000 in
theorem all_calls (a b c : Value) (ha : a.oneCell' = true) (hb : b.oneCell' = true) (hc : c.oneCell' = true) (w : World) : Calls Try.prog 34 #[.agg #[a, b, c]] w fun e w' => e = .returned (.bool true) ∧ Below w.heap.size w w' := by
  go_enter Try.func34, Try.ntmps34
  go_wp2_with (first | (((with_reducible refine gate_dst (N := 1) rfl ?_); refine box_event ?hg (N := 1) ?hd (cs := #[a, b, c]) (t := 27) ?hr ?_; (case hd => rfl); (case hg => rfl); (case hr => first | (go_simp; done) | (go_simp; rfl)); intro g1 hg w1 hbox hb; have GE1 := Aside0.mk (Nat.le_of_eq hg.symm); have BK1 := Aside0.mk hbox; have HX1 := Aside0.mk hb; clear hg hbox hb)) | fail)
  go_ret
  exact ⟨rfl, HX1.out⟩
theorem kqC_get {w : World} {A : Option Addr} {n : Nat} {xs : List Q} (h : kq.C w A n xs) (i : Nat) (hi : i < n) :
    ∃ ad, A = some ad ∧ w.cell? (ad.add (i * 4)) = some (.int .i64 (xs.getD i zQ).1) ∧ w.cell? ⟨(ad.add (i * 4)).block, (ad.add (i * 4)).off + 1, none⟩ = some (.slice (xs.getD i zQ).2.1.1 (xs.getD i zQ).2.1.2.1 (xs.getD i zQ).2.1.2.2) ∧ w.cell? ⟨(ad.add (i * 4)).block, (ad.add (i * 4)).off + 2, none⟩ = some (.slice (xs.getD i zQ).2.2.1.1 (xs.getD i zQ).2.2.1.2.1 (xs.getD i zQ).2.2.1.2.2) ∧ w.cell? ⟨(ad.add (i * 4)).block, (ad.add (i * 4)).off + 3, none⟩ = some (.int .u64 (xs.getD i zQ).2.2.2) := by
  obtain ⟨ad, cs, e, hcl, hK, hcc⟩ := Kd.C_get h zQ (i : Int) (by omega) (by omega)
  rw [Int.toNat_natCast] at hK hcc
  have e1 : cs = encQ (xs.getD i zQ) := by
    obtain ⟨_, _, rfl, rfl, _, _, rfl, rfl, _, _, rfl, rfl, rfl⟩ := hK; rfl
  subst e1
  have hc : ∀ j u, (encQ (xs.getD i zQ))[j]? = some u → w.cell? (ad.add (i * 4 + j)) = some u := hcc
  exact ⟨ad, e, hc 0 _ rfl, by rw [← add_field _ _ 1 (by omega)]; exact hc 1 _ rfl, by rw [← add_field _ _ 2 (by omega)]; exact hc 2 _ rfl, by rw [← add_field _ _ 3 (by omega)]; exact hc 3 _ rfl⟩
structure TakeOk (W : World) (ls : List Q) (f : FuncId) (cap : Array Value) (tk : Q → Bool) : Prop where
  ok : ∃ fn, Try.prog.funcs[f]? = some fn ∧ (fn.name == "runtime.NumGoroutine") = false ∧ fn.body.isSome = true
  calls : ∀ w, Below W.heap.size W w → ∀ q ∈ ls, Calls Try.prog f (#[] ++ #[qV q] ++ cap) w fun e w' => e = .returned (.bool (tk q)) ∧ Below w.heap.size w w'
theorem pre_fC (dec : Q → F) : Pre (fun p q => fC (dec p) (dec q)) where
  asym := fun x y h1 h2 => by have := fC_anti (dec x) (dec y); omega
  trans := fun x y z h1 h2 h3 => by
    have a1 := fC_anti (dec x) (dec y)
    have a2 := fC_anti (dec y) (dec z)
    have a3 := fC_anti (dec x) (dec z)
    have v1 := fC_vals (dec x) (dec y)
    have v2 := fC_vals (dec y) (dec z)
    have v3 := fC_vals (dec x) (dec z)
    by_cases e1 : fC (dec x) (dec y) = 0
    · have := fC_eq e1; rw [this] at h3; exact h2 h3
    · by_cases e2 : fC (dec y) (dec z) = 0
      · have := fC_eq e2; rw [← this] at h3; exact h1 h3
      · have := fC_trans (a := dec z) (b := dec y) (c := dec x) (by omega) (by omega)
        omega
theorem dec_of {w w4 : World} {g : Nat} {q : Q} {x : F} (h : Fl w q x) (hb : Below w.heap.size w w4) (hg : w.heap.size ≤ g) : Dec w4 g q x :=
  ⟨h.t, h.dn, h.dc, Kd.C_foot_came (Kd.heap_scalar) h.d hb hg, h.mn, h.mc, Kd.C_foot_came (Kd.heap_scalar) h.m hb hg, h.dl, h.ml⟩
theorem below_drewN (w : World) (n : Nat) : Below w.heap.size w (w.drewN n) := pw_below_drewN (Below.refl _ _) n
set_option maxRecDepth 100000 in
set_option maxHeartbeats 1600000 in
theorem bag_calls (K : Nat) (hK : K ≤ 1099511627776) (hsort : SortUpto K) (n c : Nat) (A : Option Addr) (ls : List Q) (f : FuncId) (cap : Array Value) (tk : Q → Bool) (w : World) (hC : kq.C w A n ls) (hn : n ≤ K) (htk : TakeOk w ls f cap tk) (dec : Q → F) (hdec : ∀ q ∈ ls, Fl w q (dec q)) :
    Calls Try.prog 33 #[.slice A n c, .func (.func f) #[] cap] w fun e w' => ∃ v, e = .returned v ∧ k40.R 40 w' w.heap.size (fun _ => True) v ((bagOf ((ls.filter tk).map fun q => (dec q, q.2.2.2))).map s40) ∧ Below w.heap.size w w' := by
  have HDec := Aside0.mk hdec
  have HSort := Aside0.mk hsort
  have HC := Aside0.mk hC
  have HN := Aside0.mk (show ls.length = n from hC.1)
  obtain ⟨fn, hf, hname, hbody⟩ := htk.ok
  have HF := Aside0.mk hf
  have HNm := Aside0.mk hname
  have HBd := Aside0.mk hbody
  have HTk := Aside0.mk htk.calls
  clear hC hf hname hbody htk hdec hsort
  have HB := Aside0.mk (Below.refl w.heap.size w)
  go_enter Try.func33, Try.ntmps33
  go_wp2_with fail
  go_loopw [5, 13] (fun v5 v13 w' => ∃ (i : Nat) (v : Value), i ≤ n ∧ v5 = v ∧ v13 = .int .i64 i ∧ Aside0 (kq.R 40 w' w.heap.size (fun _ => True) v ((ls.take i).filter tk)) ∧ Aside0 (Below w.heap.size w w')) (fun _ v13 _ => n - (intOf v13).toNat)
  case atStart => exact ⟨0, _, Nat.zero_le _, rfl, rfl, ⟨Kd.R_nil _ _ _ _ _⟩, HB⟩
  case round =>
    clear HB
    obtain ⟨i, v, hi, rfl, rfl, HR, HB⟩ := hrel
    by_cases hlt : i < n
    · have hii : (i : Int) < (n : Int) := by omega
      obtain ⟨ad, e, d0, d1, d2, d3⟩ := kqC_get (Kd.C_below HC.out HB.out) i hlt
      subst e
      have HT := Aside0.mk (show (ls.take (i + 1)).filter tk = (ls.take i).filter tk ++ if tk (ls.getD i zQ) = true then [ls.getD i zQ] else [] by
        have := HN.out
        rw [List.take_succ_eq_append_getElem (by omega), List.getD_eq_getElem?_getD, List.getElem?_eq_getElem (by omega), List.filter_append, List.filter_cons, List.filter_nil]; rfl)
      have HM := Aside0.mk (show ls.getD i zQ ∈ ls by
        have := HN.out
        rw [List.getD_eq_getElem?_getD, List.getElem?_eq_getElem (by omega)]; exact List.getElem_mem _)
      generalize ls.getD i zQ = q at *
      have HTq := Aside0.mk (fun w1 (h : Below w.heap.size w w1) => HTk.out w1 h q HM.out)
      clear HM
      generalize tk q = bt at HT HTq
      go_wp2_with (first
        | (((with_reducible refine gate_dst (N := 7) rfl ?_); refine box_event ?hg (N := 7) ?hd (cs := #[.int .i64 0, .slice none 0 0, .slice none 0 0, .int .u64 0]) (t := 40) ?hr ?_; (case hd => rfl); (case hg => rfl); (case hr => first | (go_simp; done) | (go_simp; rfl)); intro g1 hg w1 hbox hb; have GE1 := Aside0.mk (Nat.le_of_eq hg.symm); have BK1 := Aside0.mk hbox; have HX1 := Aside0.mk hb; clear hg hbox hb); have HB1 := Aside0.mk (below_then HB.out HB.out.size HX1.out); have HR1 := Aside0.mk (Kd.R_below HR.out HX1.out); have HG1 := Aside0.mk (Nat.le_trans HB.out.size GE1.out); (have hg1_0 : w1.cell? ⟨g1, 0, none⟩ = some (.int .i64 0) := (blk_cell BK1.out 0).trans rfl; have hfg1_0 := blk_frozen BK1.out 0; have hg1_1 : w1.cell? ⟨g1, 1, none⟩ = some (.slice none 0 0) := (blk_cell BK1.out 1).trans rfl; have hfg1_1 := blk_frozen BK1.out 1; have hg1_2 : w1.cell? ⟨g1, 2, none⟩ = some (.slice none 0 0) := (blk_cell BK1.out 2).trans rfl; have hfg1_2 := blk_frozen BK1.out 2; have hg1_3 : w1.cell? ⟨g1, 3, none⟩ = some (.int .u64 0) := (blk_cell BK1.out 3).trans rfl; have hfg1_3 := blk_frozen BK1.out 3))
        | ((with_reducible refine gate_dst (N := 20) rfl ?_); refine goesLv_ (some 20) rfl rfl HF.out HNm.out HBd.out #[qV q] rfl rfl (by simp only [List.map_toArray, List.map_cons, List.map_nil]; rfl) ?_; have HXs := Aside0.mk (show Below wr.heap.size wr ((((w1.setCell ⟨g1, 0, none⟩ (.int .i64 (q).1)).setCell ⟨g1, 1, none⟩ (.slice (q).2.1.1 (q).2.1.2.1 (q).2.1.2.2)).setCell ⟨g1, 2, none⟩ (.slice (q).2.2.1.1 (q).2.2.1.2.1 (q).2.2.1.2.2)).setCell ⟨g1, 3, none⟩ (.int .u64 (q).2.2.2)) from below_set (below_set (below_set (below_set HX1.out GE1.out) GE1.out) GE1.out) GE1.out); have BKs := Aside0.mk (show (((((w1.setCell ⟨g1, 0, none⟩ (.int .i64 (q).1)).setCell ⟨g1, 1, none⟩ (.slice (q).2.1.1 (q).2.1.2.1 (q).2.1.2.2)).setCell ⟨g1, 2, none⟩ (.slice (q).2.2.1.1 (q).2.2.1.2.1 (q).2.2.1.2.2)).setCell ⟨g1, 3, none⟩ (.int .u64 (q).2.2.2))).heap[g1]? = some (.cells #[.int .i64 q.1, .slice q.2.1.1 q.2.1.2.1 q.2.1.2.2, .slice q.2.2.1.1 q.2.2.1.2.1 q.2.2.1.2.2, .int .u64 q.2.2.2] 40 (0, 0)) from (blk_set (blk_set (blk_set (blk_set BK1.out 0 _) 1 _) 2 _) 3 _)); clear hg1_0 hfg1_0 hg1_1 hfg1_1 hg1_2 hfg1_2 hg1_3 hfg1_3; generalize ((((w1.setCell ⟨g1, 0, none⟩ (.int .i64 (q).1)).setCell ⟨g1, 1, none⟩ (.slice (q).2.1.1 (q).2.1.2.1 (q).2.1.2.2)).setCell ⟨g1, 2, none⟩ (.slice (q).2.2.1.1 (q).2.2.1.2.1 (q).2.2.1.2.2)).setCell ⟨g1, 3, none⟩ (.int .u64 (q).2.2.2)) = w2 at *; have HBs := Aside0.mk (below_then HB.out HB.out.size HXs.out); refine (HTq.out _ HBs.out).mono ?_; rintro e w3 ⟨rfl, hb⟩; refine ⟨_, rfl, ?_⟩; have HX3 := Aside0.mk (below_then HXs.out HXs.out.size hb); have HB3 := Aside0.mk (below_then HB.out HB.out.size HX3.out); have HR3 := Aside0.mk (Kd.R_below HR.out HX3.out); have BK3 := Aside0.mk (blk_below BKs.out hb); clear hb; (have hg1_0 : w3.cell? ⟨g1, 0, none⟩ = some (.int .i64 (q).1) := (blk_cell BK3.out 0).trans rfl; have hfg1_0 := blk_frozen BK3.out 0; have hg1_1 : w3.cell? ⟨g1, 1, none⟩ = some (.slice (q).2.1.1 (q).2.1.2.1 (q).2.1.2.2) := (blk_cell BK3.out 1).trans rfl; have hfg1_1 := blk_frozen BK3.out 1; have hg1_2 : w3.cell? ⟨g1, 2, none⟩ = some (.slice (q).2.2.1.1 (q).2.2.1.2.1 (q).2.2.1.2.2) := (blk_cell BK3.out 2).trans rfl; have hfg1_2 := blk_frozen BK3.out 2; have hg1_3 : w3.cell? ⟨g1, 3, none⟩ = some (.int .u64 (q).2.2.2) := (blk_cell BK3.out 3).trans rfl; have hfg1_3 := blk_frozen BK3.out 3); cases bt)
        | ((with_reducible refine gate_builtin (b := .append) (xs := #[.tmp 21, .tmp 23]) rfl ?_); at_builtin; refine Kd.R_append kq (w0 := w) w.heap.size rfl (.tmp 21) (.tmp 23) 36 40 (.agg #[.int .i64 0, .slice none 0 0, .slice none 0 0, .int .u64 0]) 64 rfl Try.underlying36 infoMany rfl (by decide) (by omega) u5 ((ls.take i).filter tk) q (encQ q) (fun _ => True) (fun _ => False) rfl rfl (kq_M.2 rfl) (fun _ hk => hk.elim) (fun _ _ => trivial) HR3.out HB3.out HB3.out.size (by have := List.length_filter_le tk (ls.take i); have := List.length_take_le i ls; omega) ?_; intro v4 w4 ho4 hb4 hg4 ha4; have HO4 := Aside0.mk ho4; have HB4 := Aside0.mk hb4; clear ho4 hb4 hg4 ha4; clear hg1_0 hfg1_0 hg1_1 hfg1_1 hg1_2 hfg1_2 hg1_3 hfg1_3)
        | fail)
      · go_roundw
        case rel => exact ⟨i + 1, _, by omega, rfl, by go_num, ⟨by rw [HT.out, if_neg (by decide), List.append_nil]; exact HR3.out⟩, HB3⟩
        case measure => simp [intOf]; omega
      · go_roundw
        case rel => exact ⟨i + 1, _, by omega, rfl, by go_num, ⟨by rw [HT.out, if_pos rfl]; exact HO4.out⟩, HB4⟩
        case measure => simp [intOf]; omega
    · have e0 : i = n := by omega
      subst e0
      have HL := Aside0.mk (show (ls.take ls.length).filter tk = ls.filter tk by rw [List.take_length])
      have hii : decide (i < i) = false := decide_eq_false (by omega)
      have HD4 := Aside0.mk (fun q (h : q ∈ ls.filter tk) => HDec.out q (List.mem_filter.1 h).1)
      have HLn := Aside0.mk (List.length_filter_le tk ls)
      replace HR := Aside0.mk (show kq.R 40 wr w.heap.size (fun _ => True) u5 (ls.filter tk) by have := HR.out; rw [← HN.out, HL.out] at this; exact this)
      generalize hLd : ls.filter tk = L at *
      have HLd := Aside0.mk hLd
      clear HL hlt hLd
      go_wp2_with fail
      rcases R_cases HR.out with ⟨rfl, rfl⟩ | ⟨g, c5, rfl, hg1, hg2⟩
      · go_wp2_with (first | (go_at_call 45; refine (sort_nil _ _).mono ?_; rintro e w2 ⟨rfl, hw2⟩; subst hw2) | fail)
        go_loopw [8, 30] (fun v8 v30 w' => v8 = .int .i64 0 ∧ v30 = .int .i64 0 ∧ w2 = w') (fun _ _ _ => 0)
        case atStart => exact ⟨rfl, rfl, rfl⟩
        case round =>
          obtain ⟨rfl, rfl, rfl⟩ := hrel
          go_wp2_with (first | (go_at_call 48; refine (del_nil _ _).mono ?_; rintro e w3 ⟨rfl, hw3⟩; subst hw3) | fail)
          go_ret
          refine ⟨_, rfl, ?_, HB.out⟩
          rw [HLd.out]
          exact Kd.R_nil _ _ _ _ _
      · have HDc := Aside0.mk (fun q (h : q ∈ L) => dec_of (HD4.out q h) HB.out hg1)
        refine (HSort.out _ (pre_fC dec) _ _ Try.func46 rfl rfl g c5 L.length L wr w.heap.size _ HR.out (Nat.le_trans HLn.out (by rw [HN.out]; exact hn)) (cmp_ok wr g L dec HDc.out)).mono ?_
        rintro e w5 ⟨rfl, zs, hrs, hso⟩
        have HI0 := Aside0.mk (show Inv2 w wr w5 w.heap.size g L.length c5 zs zs (zs.map fun q => (dec q, q.2.2.2)) 0 from ⟨hrs.row, fun _ _ => rfl, fun j hj => absurd hj (Nat.not_lt_zero j), HB.out.grown hrs.grown HB.out.size (fun k hk => by injection hk with hk; omega), hrs.grown⟩)
        have HSo := Aside0.mk (show SortedM (zs.map fun q => (dec q, q.2.2.2)) from List.Pairwise.map _ (fun _ _ h => h) hso)
        have HPe := Aside0.mk hrs.perm
        have HZl := Aside0.mk hrs.perm.length_eq
        have HDz := Aside0.mk (fun q (h : q ∈ zs) => HDc.out q (hrs.perm.mem_iff.1 h))
        clear hrs hso HR HDc HD4
        generalize L.length = m at *
        go_wp2_with fail
        go_loopw [8, 30] (fun v8 v30 w' => ∃ (i : Nat) (ys : List Q), v8 = .int .i64 (upB (zs.map fun q => (dec q, q.2.2.2)) i).length ∧ v30 = .int .i64 i ∧ i ≤ m ∧ Aside0 (Inv2 w wr w' w.heap.size g m c5 zs ys (zs.map fun q => (dec q, q.2.2.2)) i)) (fun _ v30 _ => m - (intOf v30).toNat)
        case atStart => exact ⟨0, zs, rfl, rfl, Nat.zero_le _, HI0⟩
        case round =>
          clear HI0
          obtain ⟨k, ys, rfl, rfl, hkm, HI⟩ := hrel
          by_cases hk : k < m
          · have hki : (k : Int) < (m : Int) := by omega
            obtain ⟨d0, d1, d2, d3⟩ := kq_get HI.out.row k (by omega)
            simp only [encSL] at d1 d2
            have HBg := Aside0.mk HI.out.below
            have hkl : k < zs.length := by have := HZl.out; have := (Kd.R_reads' HI.out.row).1; omega
            have HMz := Aside0.mk (show zs.getD k zQ ∈ zs by rw [List.getD_eq_getElem?_getD, List.getElem?_eq_getElem hkl]; exact List.getElem_mem _)
            have HQ := Aside0.mk (show ys.getD k zQ = zs.getD k zQ from HI.out.rest k (Nat.le_refl k))
            have HFq := Aside0.mk ((HDz.out _ HMz.out).fl HI.out.grown)
            rw [HQ.out] at d0 d1 d2 d3
            have HLi := Aside0.mk (show (zs.map fun q => (dec q, q.2.2.2)).length = m ∧ ∀ h, (zs.map fun q => (dec q, q.2.2.2))[k]'h = (dec (zs.getD k zQ), (zs.getD k zQ).2.2.2) from ⟨by rw [List.length_map]; have := HZl.out; have := (Kd.R_reads' HI.out.row).1; omega, fun h => by rw [List.getElem_map, List.getD_eq_getElem?_getD, List.getElem?_eq_getElem hkl]; rfl⟩)
            clear HMz HQ
            generalize zs.getD k zQ = q at *
            generalize dec q = x at *
            go_wp2_with (first
              | (((with_reducible refine gate_dst (N := 10) rfl ?_); refine box_event ?hg (N := 10) ?hd (cs := #[.int .i64 0, .slice none 0 0, .slice none 0 0, .int .u64 0]) (t := 40) ?hr ?_; (case hd => rfl); (case hg => rfl); (case hr => first | (go_simp; done) | (go_simp; rfl)); intro g1 hg w1 hbox hb; have GE1 := Aside0.mk (Nat.le_of_eq hg.symm); have BK1 := Aside0.mk hbox; have HX1 := Aside0.mk hb; clear hg hbox hb); have HI1 := Aside0.mk (HI.out.step HX1.out); have HG1 := Aside0.mk (Nat.le_trans HI.out.below.size GE1.out); (have hg1_0 : w1.cell? ⟨g1, 0, none⟩ = some (.int .i64 0) := (blk_cell BK1.out 0).trans rfl; have hfg1_0 := blk_frozen BK1.out 0; have hg1_1 : w1.cell? ⟨g1, 1, none⟩ = some (.slice none 0 0) := (blk_cell BK1.out 1).trans rfl; have hfg1_1 := blk_frozen BK1.out 1; have hg1_2 : w1.cell? ⟨g1, 2, none⟩ = some (.slice none 0 0) := (blk_cell BK1.out 2).trans rfl; have hfg1_2 := blk_frozen BK1.out 2; have hg1_3 : w1.cell? ⟨g1, 3, none⟩ = some (.int .u64 0) := (blk_cell BK1.out 3).trans rfl; have hfg1_3 := blk_frozen BK1.out 3))
              | fail)
            have HX2 := Aside0.mk (show Below wr.heap.size wr (((((w1.setCell ⟨g1, 0, none⟩ (.int .i64 (q).1)).setCell ⟨g1, 1, none⟩ (.slice (q).2.1.1 (q).2.1.2.1 (q).2.1.2.2)).setCell ⟨g1, 2, none⟩ (.slice (q).2.2.1.1 (q).2.2.1.2.1 (q).2.2.1.2.2)).setCell ⟨g1, 3, none⟩ (.int .u64 (q).2.2.2))) from below_set (below_set (below_set (below_set HX1.out GE1.out) GE1.out) GE1.out) GE1.out)
            have BK2 := Aside0.mk (show (((((w1.setCell ⟨g1, 0, none⟩ (.int .i64 (q).1)).setCell ⟨g1, 1, none⟩ (.slice (q).2.1.1 (q).2.1.2.1 (q).2.1.2.2)).setCell ⟨g1, 2, none⟩ (.slice (q).2.2.1.1 (q).2.2.1.2.1 (q).2.2.1.2.2)).setCell ⟨g1, 3, none⟩ (.int .u64 (q).2.2.2))).heap[g1]? = some (.cells #[.int .i64 q.1, .slice q.2.1.1 q.2.1.2.1 q.2.1.2.2, .slice q.2.2.1.1 q.2.2.1.2.1 q.2.2.1.2.2, .int .u64 q.2.2.2] 40 (0, 0)) from blk_set (blk_set (blk_set (blk_set BK1.out 0 _) 1 _) 2 _) 3 _)
            have HI2 := Aside0.mk (HI.out.step HX2.out)
            have HFq2 := Aside0.mk (HFq.out.below HX2.out)
            clear hg1_0 hfg1_0 hg1_1 hfg1_1 hg1_2 hfg1_2 hg1_3 hfg1_3 d0 d1 d2 d3 HI HI1 HBg HFq BK1 HX1
            generalize ((((w1.setCell ⟨g1, 0, none⟩ (.int .i64 (q).1)).setCell ⟨g1, 1, none⟩ (.slice (q).2.1.1 (q).2.1.2.1 (q).2.1.2.2)).setCell ⟨g1, 2, none⟩ (.slice (q).2.2.1.1 (q).2.2.1.2.1 (q).2.2.1.2.2)).setCell ⟨g1, 3, none⟩ (.int .u64 (q).2.2.2)) = w2 at *
            go_cut [8, 47] (fun s8 s47 wx => ∃ b : Bool, s8 = .int .i64 (upB (zs.map fun q => (dec q, q.2.2.2)) k).length ∧ s47 = .bool b ∧ Aside0 (Below w2.heap.size w2 wx) ∧ Aside0 (b = true → ∃ n, (upB (zs.map fun q => (dec q, q.2.2.2)) k).length = n + 1 ∧ fC ((upB (zs.map fun q => (dec q, q.2.2.2)) k).getD n zM).1 x = 0) ∧ Aside0 (b = false → ∀ n, (upB (zs.map fun q => (dec q, q.2.2.2)) k).length = n + 1 → fC ((upB (zs.map fun q => (dec q, q.2.2.2)) k).getD n zM).1 x ≠ 0))
            case first =>
              have HUl := Aside0.mk (upB_len (zs.map fun q => (dec q, q.2.2.2)) k (by have := HLi.out.1; omega))
              rcases hU : (upB (zs.map fun q => (dec q, q.2.2.2)) k).length with _ | n
              · have HU := Aside0.mk hU
                clear hU
                go_wp2_with fail
                go_quiet (fail)
                go_wp2_with fail
                go_meet
                exact ⟨false, by rw [HU.out], rfl, ⟨below_drewN _ _⟩, ⟨fun h => by cases h⟩, ⟨fun _ n h => by rw [HU.out] at h; cases h⟩⟩
              · have HU := Aside0.mk hU
                have HO := Aside0.mk (HI2.out.own n (by omega))
                obtain ⟨d0, d1, d2, d3⟩ := kq_get HI2.out.row n (by have := HUl.out; omega)
                simp only [encSL] at d1 d2
                have HFy := Aside0.mk (OwnD.fl HO.out)
                have hnm : (n : Int) < (m : Int) := by have := HUl.out; omega
                have hmb : m ≤ 1099511627776 := by have := HLn.out; have := HN.out; omega
                have hn0 : (0 : Int) < (n : Int) + 1 := by omega
                have hwn : wrap64 (n : Int) = (n : Int) := by unfold wrap64; omega
                clear hU HO
                generalize hyy : (upB (zs.map fun q => (dec q, q.2.2.2)) k).getD n zM = y at *
                have HY := Aside0.mk hyy
                clear hyy
                generalize ys.getD n zQ = p at *
                (have hg1_0 : w2.cell? ⟨g1, 0, none⟩ = some (.int .i64 q.1) := (blk_cell BK2.out 0).trans rfl; have hfg1_0 := blk_frozen BK2.out 0; have hg1_1 : w2.cell? ⟨g1, 1, none⟩ = some (.slice q.2.1.1 q.2.1.2.1 q.2.1.2.2) := (blk_cell BK2.out 1).trans rfl; have hfg1_1 := blk_frozen BK2.out 1; have hg1_2 : w2.cell? ⟨g1, 2, none⟩ = some (.slice q.2.2.1.1 q.2.2.1.2.1 q.2.2.1.2.2) := (blk_cell BK2.out 2).trans rfl; have hfg1_2 := blk_frozen BK2.out 2; have hg1_3 : w2.cell? ⟨g1, 3, none⟩ = some (.int .u64 q.2.2.2) := (blk_cell BK2.out 3).trans rfl; have hfg1_3 := blk_frozen BK2.out 3)
                go_wp2_with fail
                refine start_ (n := 14) (S := fun w' => w'.cell? ⟨g, n * 4, none⟩ = some (.int .i64 p.1) ∧ w'.cell? ⟨g, n * 4 + 1, none⟩ = some (.slice p.2.1.1 p.2.1.2.1 p.2.1.2.2) ∧ w'.cell? ⟨g, n * 4 + 2, none⟩ = some (.slice p.2.2.1.1 p.2.2.1.2.1 p.2.2.1.2.2) ∧ w'.cell? ⟨g1, 0, none⟩ = some (.int .i64 q.1) ∧ w'.cell? ⟨g1, 1, none⟩ = some (.slice q.2.1.1 q.2.1.2.1 q.2.1.2.2) ∧ w'.cell? ⟨g1, 2, none⟩ = some (.slice q.2.2.1.1 q.2.2.1.2.1 q.2.2.1.2.2)) (ds := []) #[false, false, false, false, false, false, false, false, false, false, false, false, false, false] (by kernel_rfl) rfl rfl ⟨d0, d1, d2, hg1_0, hg1_1, hg1_2⟩ (fun hHeld => ?_)
                refine pure_ (i := 0) (N := some 34) (v := ?_) (a' := ?_) #[true, false, false, false, false, false, false, false, false, false, false, false, false, false] rfl rfl (by kernel_rfl) (fun _ _ _ h => h) (Or.inl ⟨by rfl, ?_⟩) ?_ ?_
                rotate_left
                · intro w'
                  go_simp
                  with_reducible rfl
                rotate_left
                · simp only [Act.put, List.setIfInBounds_toArray, List.set_cons_zero, List.set_cons_succ, i64_w, i32_w]
                  rfl
                refine pure_ (i := 1) (N := some 35) (v := ?_) (a' := ?_) #[true, true, false, false, false, false, false, false, false, false, false, false, false, false] rfl rfl (by kernel_rfl) (fun _ _ _ h => h) (Or.inl ⟨by rfl, ?_⟩) ?_ ?_
                rotate_left
                · intro w'
                  go_simp
                  with_reducible rfl
                rotate_left
                · simp only [Act.put, List.setIfInBounds_toArray, List.set_cons_zero, List.set_cons_succ, i64_w, i32_w]
                  rfl
                refine pure_ (i := 2) (N := some 36) (v := ?_) (a' := ?_) #[true, true, true, false, false, false, false, false, false, false, false, false, false, false] rfl rfl (by kernel_rfl) (fun _ _ _ h => h) (Or.inl ⟨by rfl, ?_⟩) ?_ ?_
                rotate_left
                · intro w'
                  go_simp
                  with_reducible rfl
                rotate_left
                · simp only [Act.put, List.setIfInBounds_toArray, List.set_cons_zero, List.set_cons_succ, i64_w, i32_w]
                  rfl
                refine pure_ (i := 3) (N := some 37) (v := ?_) (a' := ?_) #[true, true, true, true, false, false, false, false, false, false, false, false, false, false] rfl rfl (by kernel_rfl) (fun _ _ _ h => h) (Or.inl ⟨by rfl, ?_⟩) ?_ ?_
                rotate_left
                · intro w'
                  go_simp
                  with_reducible rfl
                rotate_left
                · simp only [Act.put, List.setIfInBounds_toArray, List.set_cons_zero, List.set_cons_succ, i64_w, i32_w]
                  rfl
                refine pure_ (i := 4) (N := some 38) (v := ?_) (a' := ?_) #[true, true, true, true, true, false, false, false, false, false, false, false, false, false] rfl rfl (by kernel_rfl) (fun _ _ _ h => h) (Or.inl ⟨by rfl, ?_⟩) ?_ ?_
                rotate_left
                · intro w'
                  go_simp
                  with_reducible rfl
                rotate_left
                · simp only [Act.put, List.setIfInBounds_toArray, List.set_cons_zero, List.set_cons_succ, i64_w, i32_w]
                  rfl
                refine pure_ (i := 5) (N := some 39) (v := ?_) (a' := ?_) #[true, true, true, true, true, true, false, false, false, false, false, false, false, false] rfl rfl (by kernel_rfl) (fun _ _ _ h => h) (Or.inl ⟨by rfl, ?_⟩) ?_ ?_
                rotate_left
                · intro w'
                  go_simp
                  with_reducible rfl
                rotate_left
                · simp only [Act.put, List.setIfInBounds_toArray, List.set_cons_zero, List.set_cons_succ, i64_w, i32_w]
                  rfl
                refine pure_ (i := 6) (N := some 40) (v := ?_) (a' := ?_) #[true, true, true, true, true, true, true, false, false, false, false, false, false, false] rfl rfl (by kernel_rfl) (fun _ _ _ h => h) (Or.inl ⟨by rfl, ?_⟩) ?_ ?_
                rotate_left
                · intro w'
                  go_simp
                  with_reducible rfl
                rotate_left
                · simp only [Act.put, List.setIfInBounds_toArray, List.set_cons_zero, List.set_cons_succ, i64_w, i32_w]
                  rfl
                refine pure_ (i := 7) (N := some 41) (v := ?_) (a' := ?_) #[true, true, true, true, true, true, true, true, false, false, false, false, false, false] rfl rfl (by kernel_rfl) (fun _ _ _ h => h) (Or.inl ⟨by rfl, ?_⟩) ?_ ?_
                rotate_left
                · intro w'
                  go_simp
                  with_reducible rfl
                rotate_left
                · simp only [Act.put, List.setIfInBounds_toArray, List.set_cons_zero, List.set_cons_succ, i64_w, i32_w]
                  rfl
                refine pure_ (i := 9) (N := some 43) (v := ?_) (a' := ?_) #[true, true, true, true, true, true, true, true, false, true, false, false, false, false] rfl rfl (by kernel_rfl) (fun _ _ _ h => h) (Or.inl ⟨by rfl, ?_⟩) ?_ ?_
                rotate_left
                · intro w'
                  go_simp
                  with_reducible rfl
                rotate_left
                · simp only [Act.put, List.setIfInBounds_toArray, List.set_cons_zero, List.set_cons_succ, i64_w, i32_w]
                  rfl
                refine take_ (i := 8) (N := some 42) (v := ?_) (a' := ?_) #[true, true, true, true, true, true, true, true, true, true, false, false, false, false] rfl rfl (by kernel_rfl) (fun _ _ _ h => h) (Or.inl ⟨by rfl, ?_⟩) hHeld ?_ ?_
                rotate_left
                · rintro w' ⟨s0, s1, s2, s3, s4, s5⟩
                  go_simp
                  with_reducible rfl
                rotate_left
                · simp only [Act.put, List.setIfInBounds_toArray, List.set_cons_zero, List.set_cons_succ, i64_w, i32_w]
                  rfl
                refine take_ (i := 10) (N := some 44) (v := ?_) (a' := ?_) #[true, true, true, true, true, true, true, true, true, true, true, false, false, false] rfl rfl (by kernel_rfl) (fun _ _ _ h => h) (Or.inl ⟨by rfl, ?_⟩) hHeld ?_ ?_
                rotate_left
                · rintro w' ⟨s0, s1, s2, s3, s4, s5⟩
                  go_simp
                  with_reducible rfl
                rotate_left
                · simp only [Act.put, List.setIfInBounds_toArray, List.set_cons_zero, List.set_cons_succ, i64_w, i32_w]
                  rfl
                refine one_ (i := 11) (N := some 45) #[true, true, true, true, true, true, true, true, true, true, true, true, false, false] rfl rfl (by kernel_rfl) (by decide) (fun K hK => ?_)
                refine goes_ Try.func14 (by kernel_rfl) rfl #[.agg #[.int .i64 p.1, .slice p.2.1.1 p.2.1.2.1 p.2.1.2.2, .slice p.2.2.1.1 p.2.2.1.2.1 p.2.2.1.2.2], .agg #[.int .i64 q.1, .slice q.2.1.1 q.2.1.2.1 q.2.1.2.2, .slice q.2.2.1.1 q.2.2.1.2.1 q.2.2.1.2.2]] (by rfl) rfl rfl (by simp only [List.map_toArray, List.map_cons, List.map_nil]; rfl) ?_
                with_reducible refine (cmp_flat (HFy.out.below (below_drew (Below.refl _ _))) (HFq2.out.below (below_drew (Below.refl _ _)))).mono ?_
                rintro e w3 ⟨rfl, hb⟩
                refine ⟨_, rfl, ?_⟩
                have hbx := Aside0.mk (below_then (below_drew (Below.refl _ _)) (Nat.le_refl _) hb)
                clear hb
                refine hK.out _ _ ⟨(pw_cell_below hbx.out d0), (pw_cell_below hbx.out d1), (pw_cell_below hbx.out d2), (pw_cell_below hbx.out hg1_0), (pw_cell_below hbx.out hg1_1), (pw_cell_below hbx.out hg1_2)⟩ (fun hHeld => ?_)
                clear hK K
                refine norm_ (a' := ?_) ?_ ?_
                rotate_left
                · show Act.put _ (some 45) _ = _
                  simp only [Act.put, List.setIfInBounds_toArray, List.set_cons_zero, List.set_cons_succ, i64_w, i32_w]
                  rfl
                refine pure_ (i := 12) (N := some 46) (v := ?_) (a' := ?_) #[true, true, true, true, true, true, true, true, true, true, true, true, true, false] rfl rfl (by kernel_rfl) (fun _ _ _ h => h) (Or.inl ⟨by rfl, ?_⟩) ?_ ?_
                rotate_left
                · intro w'
                  go_simp
                  with_reducible rfl
                rotate_left
                · simp only [Act.put, List.setIfInBounds_toArray, List.set_cons_zero, List.set_cons_succ, i64_w, i32_w]
                  rfl
                refine pure_ (i := 13) (N := some 47) (v := ?_) (a' := ?_) #[true, true, true, true, true, true, true, true, true, true, true, true, true, true] rfl rfl (by kernel_rfl) (fun _ _ _ h => h) (Or.inl ⟨by rfl, ?_⟩) ?_ ?_
                rotate_left
                · intro w'
                  go_simp
                  with_reducible rfl
                rotate_left
                · simp only [Act.put, List.setIfInBounds_toArray, List.set_cons_zero, List.set_cons_succ, i64_w, i32_w]
                  rfl
                refine done_ (by kernel_rfl) ?_
                clear hmb hn0 hnm hwn
                go_wp2_with fail
                go_meet
                exact ⟨fC y.1 x == 0, by rw [HU.out], rfl, hbx, ⟨fun h => ⟨n, HU.out, by rw [HY.out]; exact eq_of_beq h⟩⟩, ⟨fun h n2 h2 => by
                  rw [HU.out] at h2
                  injection h2 with h2
                  subst h2
                  rw [HY.out]
                  exact fun h3 => by rw [h3] at h; cases h⟩⟩
            case rest =>
              obtain ⟨b, rfl, rfl, HBc, HB1, HB0⟩ := hcut
              have HI3 := Aside0.mk (HI2.out.step HBc.out)
              have HFq3 := Aside0.mk (HFq2.out.below HBc.out)
              have BK3 := Aside0.mk (blk_below BK2.out HBc.out)
              have HX3 := Aside0.mk (below_then HX2.out HX2.out.size HBc.out)
              clear HI2 HFq2 BK2 HBc HX2
              cases b with
              | true =>
                obtain ⟨n, hU, hfc⟩ := HB1.out rfl
                have HU := Aside0.mk hU
                have HUl := Aside0.mk (upB_len (zs.map fun q => (dec q, q.2.2.2)) k (by have := HLi.out.1; omega))
                have HIs := Aside0.mk (HI3.out.same HSo.out (by have := HLi.out.1; omega) HLi.out.1 hg1 n hU (by rw [HLi.out.2]; exact hfc))
                have HN3 := Aside0.mk (HI3.out.own n (by omega)).n
                have HFc := Aside0.mk hfc
                clear HB1 HB0 hfc
                rw [hU]
                obtain ⟨-, -, -, d3⟩ := kq_get HI3.out.row n (by have := HUl.out; omega)
                have hnm : (n : Int) < (m : Int) := by have := HUl.out; omega
                have hmb : m ≤ 1099511627776 := by have := HLn.out; have := HN.out; omega
                have hn0 : (0 : Int) < (n : Int) + 1 := by omega
                have hwn : wrap64 (n : Int) = (n : Int) := by unfold wrap64; omega
                clear hU
                rw [HLi.out.2] at HIs
                generalize ys.getD n zQ = p at *
                (have hg1_0 : wc.cell? ⟨g1, 0, none⟩ = some (.int .i64 q.1) := (blk_cell BK3.out 0).trans rfl; have hfg1_0 := blk_frozen BK3.out 0; have hg1_1 : wc.cell? ⟨g1, 1, none⟩ = some (.slice q.2.1.1 q.2.1.2.1 q.2.1.2.2) := (blk_cell BK3.out 1).trans rfl; have hfg1_1 := blk_frozen BK3.out 1; have hg1_2 : wc.cell? ⟨g1, 2, none⟩ = some (.slice q.2.2.1.1 q.2.2.1.2.1 q.2.2.1.2.2) := (blk_cell BK3.out 2).trans rfl; have hfg1_2 := blk_frozen BK3.out 2; have hg1_3 : wc.cell? ⟨g1, 3, none⟩ = some (.int .u64 q.2.2.2) := (blk_cell BK3.out 3).trans rfl; have hfg1_3 := blk_frozen BK3.out 3)
                obtain ⟨cs3, hcs3⟩ := Kd.R_typed HI3.out.row g rfl
                have hfz : ∀ o, wc.frozen? ⟨g, o, none⟩ = false := fun o => blk_frozen hcs3 o
                go_wp2_with fail
                refine start_ (n := 12) (S := fun w' => w'.cell? ⟨g, n * 4 + 3, none⟩ = some (.int .u64 p.2.2.2) ∧ w'.cell? ⟨g1, 3, none⟩ = some (.int .u64 q.2.2.2) ∧ ∀ o, w'.frozen? ⟨g, o, none⟩ = false) (ds := [11]) #[false, false, false, false, false, false, false, false, false, false, false, false] (by kernel_rfl) rfl rfl ⟨d3, hg1_3, hfz⟩ (fun hHeld => ?_)
                refine pure_ (i := 0) (N := some 48) (v := ?_) (a' := ?_) #[true, false, false, false, false, false, false, false, false, false, false, false] rfl rfl (by kernel_rfl) (fun _ _ _ h => h) (Or.inl ⟨by rfl, ?_⟩) ?_ ?_
                rotate_left
                · intro w'
                  go_simp
                  with_reducible rfl
                rotate_left
                · simp only [Act.put, List.setIfInBounds_toArray, List.set_cons_zero, List.set_cons_succ, i64_w, i32_w]
                  rfl
                refine pure_ (i := 1) (N := some 49) (v := ?_) (a' := ?_) #[true, true, false, false, false, false, false, false, false, false, false, false] rfl rfl (by kernel_rfl) (fun _ _ _ h => h) (Or.inl ⟨by rfl, ?_⟩) ?_ ?_
                rotate_left
                · intro w'
                  go_simp
                  with_reducible rfl
                rotate_left
                · simp only [Act.put, List.setIfInBounds_toArray, List.set_cons_zero, List.set_cons_succ, i64_w, i32_w]
                  rfl
                refine pure_ (i := 2) (N := some 50) (v := ?_) (a' := ?_) #[true, true, true, false, false, false, false, false, false, false, false, false] rfl rfl (by kernel_rfl) (fun _ _ _ h => h) (Or.inl ⟨by rfl, ?_⟩) ?_ ?_
                rotate_left
                · intro w'
                  go_simp
                  with_reducible rfl
                rotate_left
                · simp only [Act.put, List.setIfInBounds_toArray, List.set_cons_zero, List.set_cons_succ, i64_w, i32_w]
                  rfl
                refine pure_ (i := 3) (N := some 51) (v := ?_) (a' := ?_) #[true, true, true, true, false, false, false, false, false, false, false, false] rfl rfl (by kernel_rfl) (fun _ _ _ h => h) (Or.inl ⟨by rfl, ?_⟩) ?_ ?_
                rotate_left
                · intro w'
                  go_simp
                  with_reducible rfl
                rotate_left
                · simp only [Act.put, List.setIfInBounds_toArray, List.set_cons_zero, List.set_cons_succ, i64_w, i32_w]
                  rfl
                refine pure_ (i := 4) (N := some 52) (v := ?_) (a' := ?_) #[true, true, true, true, true, false, false, false, false, false, false, false] rfl rfl (by kernel_rfl) (fun _ _ _ h => h) (Or.inl ⟨by rfl, ?_⟩) ?_ ?_
                rotate_left
                · intro w'
                  go_simp
                  with_reducible rfl
                rotate_left
                · simp only [Act.put, List.setIfInBounds_toArray, List.set_cons_zero, List.set_cons_succ, i64_w, i32_w]
                  rfl
                refine pure_ (i := 6) (N := some 54) (v := ?_) (a' := ?_) #[true, true, true, true, true, false, true, false, false, false, false, false] rfl rfl (by kernel_rfl) (fun _ _ _ h => h) (Or.inl ⟨by rfl, ?_⟩) ?_ ?_
                rotate_left
                · intro w'
                  go_simp
                  with_reducible rfl
                rotate_left
                · simp only [Act.put, List.setIfInBounds_toArray, List.set_cons_zero, List.set_cons_succ, i64_w, i32_w]
                  rfl
                refine take_ (i := 5) (N := some 53) (v := ?_) (a' := ?_) #[true, true, true, true, true, true, true, false, false, false, false, false] rfl rfl (by kernel_rfl) (fun _ _ _ h => h) (Or.inl ⟨by rfl, ?_⟩) hHeld ?_ ?_
                rotate_left
                · rintro w' ⟨s0, s1, s2⟩
                  go_simp
                  with_reducible rfl
                rotate_left
                · simp only [Act.put, List.setIfInBounds_toArray, List.set_cons_zero, List.set_cons_succ, i64_w, i32_w]
                  rfl
                refine take_ (i := 7) (N := some 55) (v := ?_) (a' := ?_) #[true, true, true, true, true, true, true, true, false, false, false, false] rfl rfl (by kernel_rfl) (fun _ _ _ h => h) (Or.inl ⟨by rfl, ?_⟩) hHeld ?_ ?_
                rotate_left
                · rintro w' ⟨s0, s1, s2⟩
                  go_simp
                  with_reducible rfl
                rotate_left
                · simp only [Act.put, List.setIfInBounds_toArray, List.set_cons_zero, List.set_cons_succ, i64_w, i32_w]
                  rfl
                refine pure_ (i := 8) (N := some 56) (v := ?_) (a' := ?_) #[true, true, true, true, true, true, true, true, true, false, false, false] rfl rfl (by kernel_rfl) (fun _ _ _ h => h) (Or.inl ⟨by rfl, ?_⟩) ?_ ?_
                rotate_left
                · intro w'
                  go_simp
                  with_reducible rfl
                rotate_left
                · simp only [Act.put, List.setIfInBounds_toArray, List.set_cons_zero, List.set_cons_succ, i64_w, i32_w]
                  rfl
                refine pure_ (i := 9) (N := some 57) (v := ?_) (a' := ?_) #[true, true, true, true, true, true, true, true, true, true, false, false] rfl rfl (by kernel_rfl) (fun _ _ _ h => h) (Or.inl ⟨by rfl, ?_⟩) ?_ ?_
                rotate_left
                · intro w'
                  go_simp
                  with_reducible rfl
                rotate_left
                · simp only [Act.put, List.setIfInBounds_toArray, List.set_cons_zero, List.set_cons_succ, i64_w, i32_w]
                  rfl
                refine pure_ (i := 10) (N := some 58) (v := ?_) (a' := ?_) #[true, true, true, true, true, true, true, true, true, true, true, false] rfl rfl (by kernel_rfl) (fun _ _ _ h => h) (Or.inl ⟨by rfl, ?_⟩) ?_ ?_
                rotate_left
                · intro w'
                  go_simp
                  with_reducible rfl
                rotate_left
                · simp only [Act.put, List.setIfInBounds_toArray, List.set_cons_zero, List.set_cons_succ, i64_w, i32_w]
                  rfl
                refine last_ (i := 11) (N := none) #[true, true, true, true, true, true, true, true, true, true, true, true] rfl rfl (by kernel_rfl) (by decide) (fun K hK => ?_)
                refine skip_ (w1 := ?_) (by rfl) rfl ?_ ?_
                rotate_left
                · go_simp
                  rfl
                refine hK.out _ _ ?_
                clear hK K
                refine done_ (by kernel_rfl) ?_
                have HI4 := Aside0.mk (HIs.out.step (below_drew (Below.refl _ _)))
                have HSa := Aside0.mk (up_same HSo.out k (by have := HLi.out.1; omega) n HU.out (by rw [HLi.out.2]; exact HFc.out))
                clear HI3 HIs hHeld hfz d3 hcs3 hg1_0 hfg1_0 hg1_1 hfg1_1 hg1_2 hfg1_2 hg1_3 hfg1_3 hn0 hnm hwn
                go_wp2_with fail
                go_roundw
                case rel => exact ⟨k + 1, _, by rw [HSa.out, List.length_set, HU.out]; rfl, by go_num, by omega, HI4⟩
                case measure => simp [intOf]; omega
              | false =>
                have HUl := Aside0.mk (upB_len (zs.map fun q => (dec q, q.2.2.2)) k (by have := HLi.out.1; omega))
                have HNe := Aside0.mk (up_new HSo.out k (by have := HLi.out.1; omega) (by rw [HLi.out.2]; exact HB0.out rfl))
                have HNq := Aside0.mk (HB0.out rfl)
                generalize hUU : (upB (zs.map fun q => (dec q, q.2.2.2)) k).length = U at *
                have HU := Aside0.mk hUU
                clear hUU HB0 HB1
                have hum : (U : Int) < (m : Int) := by have := HUl.out; omega
                have hmb : m ≤ 1099511627776 := by have := HLn.out; have := HN.out; omega
                obtain ⟨d0, d1, d2, d3⟩ := kq_get HI3.out.row U (by have := HUl.out; omega)
                simp only [encSL] at d1 d2
                generalize ys.getD U zQ = r at *
                (have hg1_0 : wc.cell? ⟨g1, 0, none⟩ = some (.int .i64 q.1) := (blk_cell BK3.out 0).trans rfl; have hfg1_0 := blk_frozen BK3.out 0; have hg1_1 : wc.cell? ⟨g1, 1, none⟩ = some (.slice q.2.1.1 q.2.1.2.1 q.2.1.2.2) := (blk_cell BK3.out 1).trans rfl; have hfg1_1 := blk_frozen BK3.out 1; have hg1_2 : wc.cell? ⟨g1, 2, none⟩ = some (.slice q.2.2.1.1 q.2.2.1.2.1 q.2.2.1.2.2) := (blk_cell BK3.out 2).trans rfl; have hfg1_2 := blk_frozen BK3.out 2; have hg1_3 : wc.cell? ⟨g1, 3, none⟩ = some (.int .u64 q.2.2.2) := (blk_cell BK3.out 3).trans rfl; have hfg1_3 := blk_frozen BK3.out 3)
                obtain ⟨cs3, hcs3⟩ := Kd.R_typed HI3.out.row g rfl
                have hfz : ∀ o, wc.frozen? ⟨g, o, none⟩ = false := fun o => blk_frozen hcs3 o
                go_wp2_with fail
                refine start_ (n := 10) (S := fun w' => w'.cell? ⟨g1, 0, none⟩ = some (.int .i64 q.1) ∧ w'.cell? ⟨g1, 1, none⟩ = some (.slice q.2.1.1 q.2.1.2.1 q.2.1.2.2) ∧ w'.cell? ⟨g1, 2, none⟩ = some (.slice q.2.2.1.1 q.2.2.1.2.1 q.2.2.1.2.2) ∧ w'.cell? ⟨g1, 3, none⟩ = some (.int .u64 q.2.2.2) ∧ w'.cell? ⟨g, U * 4, none⟩ = some (.int .i64 r.1) ∧ w'.cell? ⟨g, U * 4 + 1, none⟩ = some (.slice r.2.1.1 r.2.1.2.1 r.2.1.2.2) ∧ w'.cell? ⟨g, U * 4 + 2, none⟩ = some (.slice r.2.2.1.1 r.2.2.1.2.1 r.2.2.1.2.2) ∧ w'.cell? ⟨g, U * 4 + 3, none⟩ = some (.int .u64 r.2.2.2) ∧ ∀ o, w'.frozen? ⟨g, o, none⟩ = false) (ds := [9]) #[false, false, false, false, false, false, false, false, false, false] (by kernel_rfl) rfl rfl ⟨hg1_0, hg1_1, hg1_2, hg1_3, d0, d1, d2, d3, hfz⟩ (fun hHeld => ?_)
                refine pure_ (i := 0) (N := some 59) (v := ?_) (a' := ?_) #[true, false, false, false, false, false, false, false, false, false] rfl rfl (by kernel_rfl) (fun _ _ _ h => h) (Or.inl ⟨by rfl, ?_⟩) ?_ ?_
                rotate_left
                · intro w'
                  go_simp
                  with_reducible rfl
                rotate_left
                · simp only [Act.put, List.setIfInBounds_toArray, List.set_cons_zero, List.set_cons_succ, i64_w, i32_w]
                  rfl
                refine pure_ (i := 1) (N := some 60) (v := ?_) (a' := ?_) #[true, true, false, false, false, false, false, false, false, false] rfl rfl (by kernel_rfl) (fun _ _ _ h => h) (Or.inl ⟨by rfl, ?_⟩) ?_ ?_
                rotate_left
                · intro w'
                  go_simp
                  with_reducible rfl
                rotate_left
                · simp only [Act.put, List.setIfInBounds_toArray, List.set_cons_zero, List.set_cons_succ, i64_w, i32_w]
                  rfl
                refine pure_ (i := 2) (N := some 61) (v := ?_) (a' := ?_) #[true, true, true, false, false, false, false, false, false, false] rfl rfl (by kernel_rfl) (fun _ _ _ h => h) (Or.inl ⟨by rfl, ?_⟩) ?_ ?_
                rotate_left
                · intro w'
                  go_simp
                  with_reducible rfl
                rotate_left
                · simp only [Act.put, List.setIfInBounds_toArray, List.set_cons_zero, List.set_cons_succ, i64_w, i32_w]
                  rfl
                refine pure_ (i := 5) (N := some 64) (v := ?_) (a' := ?_) #[true, true, true, false, false, true, false, false, false, false] rfl rfl (by kernel_rfl) (fun _ _ _ h => h) (Or.inl ⟨by rfl, ?_⟩) ?_ ?_
                rotate_left
                · intro w'
                  go_simp
                  with_reducible rfl
                rotate_left
                · simp only [Act.put, List.setIfInBounds_toArray, List.set_cons_zero, List.set_cons_succ, i64_w, i32_w]
                  rfl
                refine take_ (i := 3) (N := some 62) (v := ?_) (a' := ?_) #[true, true, true, true, false, true, false, false, false, false] rfl rfl (by kernel_rfl) (fun _ _ _ h => h) (Or.inl ⟨by rfl, ?_⟩) hHeld ?_ ?_
                rotate_left
                · rintro w' ⟨s0, s1, s2, s3, s4, s5, s6, s7, s8⟩
                  go_simp
                  with_reducible rfl
                rotate_left
                · simp only [Act.put, List.setIfInBounds_toArray, List.set_cons_zero, List.set_cons_succ, i64_w, i32_w]
                  rfl
                refine take_ (i := 6) (N := some 65) (v := ?_) (a' := ?_) #[true, true, true, true, false, true, true, false, false, false] rfl rfl (by kernel_rfl) (fun _ _ _ h => h) (Or.inl ⟨by rfl, ?_⟩) hHeld ?_ ?_
                rotate_left
                · rintro w' ⟨s0, s1, s2, s3, s4, s5, s6, s7, s8⟩
                  go_simp
                  with_reducible rfl
                rotate_left
                · simp only [Act.put, List.setIfInBounds_toArray, List.set_cons_zero, List.set_cons_succ, i64_w, i32_w]
                  rfl
                refine one_ (i := 4) (N := some 63) #[true, true, true, true, true, true, true, false, false, false] rfl rfl (by kernel_rfl) (by decide) (fun K hK => ?_)
                refine goes_ Try.func47 (by kernel_rfl) rfl #[.agg #[.int .i64 q.1, .slice q.2.1.1 q.2.1.2.1 q.2.1.2.2, .slice q.2.2.1.1 q.2.2.1.2.1 q.2.2.1.2.2]] (by rfl) rfl rfl (by simp only [List.map_toArray, List.map_cons, List.map_nil]; rfl) ?_
                with_reducible refine (own_flat (HFq3.out.below (below_drew (Below.refl _ _)))).mono ?_
                rintro e w5 ⟨dA, dn, dc, mA, mn, mc, rfl, rd, rm, hb⟩
                refine ⟨_, rfl, ?_⟩
                have hbx := Aside0.mk (below_then (below_drew (Below.refl _ _)) (Nat.le_refl _) hb)
                have HRd := Aside0.mk rd
                have HRm := Aside0.mk rm
                have HFz := Aside0.mk (fun o => blk_frozen (blk_below hcs3 hbx.out) o)
                clear hb rd rm
                refine hK.out _ _ ⟨(pw_cell_below hbx.out hg1_0), (pw_cell_below hbx.out hg1_1), (pw_cell_below hbx.out hg1_2), (pw_cell_below hbx.out hg1_3), (pw_cell_below hbx.out d0), (pw_cell_below hbx.out d1), (pw_cell_below hbx.out d2), (pw_cell_below hbx.out d3), HFz.out⟩ (fun hHeld => ?_)
                clear hK K
                refine norm_ (a' := ?_) ?_ ?_
                rotate_left
                · show Act.put _ (some 63) _ = _
                  simp only [Act.put, List.setIfInBounds_toArray, List.set_cons_zero, List.set_cons_succ, i64_w, i32_w]
                  rfl
                refine pure_ (i := 7) (N := some 66) (v := ?_) (a' := ?_) #[true, true, true, true, true, true, true, true, false, false] rfl rfl (by kernel_rfl) (fun _ _ _ h => h) (Or.inl ⟨by rfl, ?_⟩) ?_ ?_
                rotate_left
                · intro w'
                  go_simp
                  with_reducible rfl
                rotate_left
                · simp only [Act.put, List.setIfInBounds_toArray, List.set_cons_zero, List.set_cons_succ, i64_w, i32_w]
                  rfl
                refine pure_ (i := 8) (N := some 67) (v := ?_) (a' := ?_) #[true, true, true, true, true, true, true, true, true, false] rfl rfl (by kernel_rfl) (fun _ _ _ h => h) (Or.inl ⟨by rfl, ?_⟩) ?_ ?_
                rotate_left
                · intro w'
                  go_simp
                  with_reducible rfl
                rotate_left
                · simp only [Act.put, List.setIfInBounds_toArray, List.set_cons_zero, List.set_cons_succ, i64_w, i32_w]
                  rfl
                refine last_ (i := 9) (N := none) #[true, true, true, true, true, true, true, true, true, true] rfl rfl (by kernel_rfl) (by decide) (fun K hK => ?_)
                refine skip_ (w1 := ?_) (by rfl) rfl ?_ ?_
                rotate_left
                · go_simp
                  rfl
                refine hK.out _ _ ?_
                clear hK K
                refine done_ (by kernel_rfl) ?_
                have HPu := Aside0.mk ((HI3.out.step hbx.out).put HSo.out (by have := HLi.out.1; omega) HLi.out.1 hg1 (by rw [HLi.out.2]; rw [HU.out]; exact HNq.out) (x.1, (dA, dn, dc), (mA, mn, mc), q.2.2.2) (by
                  rw [HLi.out.2]
                  exact own_new (Nat.lt_of_lt_of_le hg2 HI3.out.grown.size) HI3.out.below.size rfl rfl HRd.out HRm.out HFq3.out.dl HFq3.out.ml))
                rw [HU.out, set4] at HPu
                clear hHeld HFz HRd HRm hbx d0 d1 d2 d3 hfz hcs3 hg1_0 hfg1_0 hg1_1 hfg1_1 hg1_2 hfg1_2 hg1_3 hfg1_3 HI3 HX3 BK3 HFq3
                generalize ((((w5.setCell ⟨g, U * 4, none⟩ (.int .i64 x.1)).setCell ⟨g, U * 4 + 1, none⟩ (.slice dA dn dc)).setCell ⟨g, U * 4 + 2, none⟩ (.slice mA mn mc)).setCell ⟨g, U * 4 + 3, none⟩ (.int .u64 q.2.2.2)) = w6 at *
                go_wp2_with fail
                go_roundw
                case rel => exact ⟨k + 1, _, by rw [HNe.out, List.length_append, HU.out]; go_num, by go_num, by omega, HPu⟩
                case measure => simp [intOf]; omega
          · have e0 : k = m := by omega
            subst e0
            have hii2 : decide (k < k) = false := decide_eq_false (by omega)
            clear hk
            have HLz := Aside0.mk (show (zs.map fun q => (dec q, q.2.2.2)).length = k by rw [List.length_map]; exact HZl.out)
            have HUl := Aside0.mk (upB_len (zs.map fun q => (dec q, q.2.2.2)) k (Nat.le_of_eq HLz.out.symm))
            have HUa := Aside0.mk (show upB (zs.map fun q => (dec q, q.2.2.2)) k = bagB [] (L.map fun q => (dec q, q.2.2.2)) by
              have h := upB_all (zs.map fun q => (dec q, q.2.2.2))
              rw [HLz.out] at h
              rw [h]
              exact bagB_perm (HPe.out.map _) [] List.Pairwise.nil)
            have HYl := Aside0.mk (Kd.R_reads' HI.out.row)
            have HDl := Aside0.mk (del_flat g (upB (zs.map fun q => (dec q, q.2.2.2)) k).length c5 (ys.take (upB (zs.map fun q => (dec q, q.2.2.2)) k).length) wr w.heap.size (Kd.R_take HI.out.row (by have := HUl.out; have := HYl.out.1; omega)) (by have := HUl.out; have := HLn.out; have := HN.out; omega))
            have HEn := Aside0.mk (fun w2 hr hg => bag_end (n := 0) (w := wr) (w2 := w2) (c := c5) hr hg (by have := HUl.out; have := HYl.out.1; omega) HI.out.own)
            generalize hUU : (upB (zs.map fun q => (dec q, q.2.2.2)) k).length = U at *
            have HU := Aside0.mk hUU
            have hUc : U ≤ c5 := by have := HUl.out; have := HYl.out.2.1; have := HYl.out.1; omega
            have HBw := Aside0.mk HI.out.below
            clear hUU
            go_wp2_with (first | (go_at_call 48; refine HDl.out.mono ?_; rintro e w7 ⟨rfl, hr7, hg7⟩; have HR7 := Aside0.mk hr7; have HG7 := Aside0.mk hg7; clear hr7 hg7) | fail)
            go_ret
            refine ⟨_, rfl, ?_, HBw.out.grown HG7.out HBw.out.size (fun k hk => by injection hk with hk; omega)⟩
            (try rw [HLd.out])
            have h := HEn.out w7
            rw [HUa.out] at h
            exact h HR7.out HG7.out
end Go.Proofs.Ytfeeahjaeapkoaa.Ext
end

section
namespace Go.Proofs.Ytfeeahjaeapkoaa.Ext
set_option linter.unusedVariables false
set_option linter.unusedSimpArgs false
open Go.RowKit Go.Proofs.YtfeeahjaeapkoaaW.PrintWords Go.Proofs.YtfeeahjaeapkoaaW.PrintLast Go.Proofs.YtfeeahjaeapkoaaW.PrintMore Go.Proofs.Ytfeeahjaeapkoaa.Lib Go.Proofs.Ytfeeahjaeapkoaa.P
theorem kq_K {w : World} {q : Q} {cs : List Value} : kq.K w q cs ↔ cs = encQ q := by
  constructor
  · rintro ⟨_, _, rfl, rfl, _, _, rfl, rfl, _, _, rfl, rfl, rfl⟩; rfl
  · rintro rfl; exact ⟨[_], _, rfl, rfl, [_], _, rfl, rfl, [_], [_], rfl, rfl, rfl⟩
theorem C_det {α : Type} {enc : α → Value} {h1 : ∀ x, (enc x).oneCell' = true} (hinj : ∀ x y, enc x = enc y → x = y) {w : World} {A : Option Addr} {n m : Nat} {xs ys : List α} (hx : (Kd.scalar enc h1).C w A n xs) (hy : (Kd.scalar enc h1).C w A m ys) (hl : n = m) : xs = ys := by
  subst hl
  obtain ⟨l1, _, c1⟩ := hx
  obtain ⟨l2, _, c2⟩ := hy
  refine List.ext_getElem (l1.trans l2.symm) (fun i h h' => ?_)
  obtain ⟨a1, e1, k1⟩ := c1 (by omega)
  obtain ⟨a2, e2, k2⟩ := c2 (by omega)
  rw [e1] at e2
  injection e2 with e2
  subst e2
  obtain ⟨d1, _, r1, u1⟩ := k1 i _ (List.getElem?_eq_getElem h)
  obtain ⟨d2, _, r2, u2⟩ := k2 i _ (List.getElem?_eq_getElem h')
  have e1 : d1 = [enc xs[i]] := r1
  have e2 : d2 = [enc ys[i]] := r2
  subst e1 e2
  have v1 := u1 0 _ rfl
  have v2 := u2 0 _ rfl
  rw [v1] at v2
  exact hinj _ _ (Option.some.inj v2)
theorem Fl.det {w : World} {q : Q} {x y : F} (hx : Fl w q x) (hy : Fl w q y) : x = y := by
  obtain ⟨a, b, c⟩ := x
  obtain ⟨a', b', c'⟩ := y
  have e1 : a = a' := hx.t.symm.trans hy.t
  have e2 : b = b' := C_det (fun x y h => by injection h) hx.d hy.d (hx.dn.symm.trans hy.dn)
  have e3 : c = c' := C_det (fun x y h => by injection h) hx.m hy.m (hx.mn.symm.trans hy.mn)
  subst e1 e2 e3
  rfl
noncomputable def decW (w : World) (q : Q) : F := @Classical.epsilon F ⟨(0, [], [])⟩ (fun x => Fl w q x)
theorem decW_eq {w : World} {q : Q} {x : F} (h : Fl w q x) : decW w q = x := Fl.det (@Classical.epsilon_spec_aux F ⟨(0, [], [])⟩ (fun x => Fl w q x) ⟨x, h⟩) h
def m40 (x : S40) : M := ((x.f0.f0, x.f0.f1, x.f0.f2), x.f1)
def Small (x : M) : Prop := x.1.2.1.length ≤ 8796093022208 ∧ x.1.2.2.length ≤ 17592186044416
theorem flat40 {w : World} {A : Option Addr} {n : Nat} {l : List S40} (h : Kd.C k40 w A n l) (hb : ∀ x ∈ l, Small (m40 x)) : ∃ qs : List Q, kq.C w A n qs ∧ Two (fun q x => Fl w q x.1 ∧ q.2.2.2 = x.2) qs (l.map m40) := by
  obtain ⟨hl, hn, hc⟩ := h
  by_cases h0 : 0 < n
  · obtain ⟨ad, e, hk⟩ := hc h0
    have key : ∀ j : Nat, ∃ q : Q, ∀ p, l[j]? = some p → (∀ i u, (encQ q)[i]? = some u → w.cell? (ad.add (j * 4 + i)) = some u) ∧ Fl w q (m40 p).1 ∧ q.2.2.2 = (m40 p).2 := by
      intro j
      by_cases hj : j < l.length
      · obtain ⟨c, h1, h2, h3⟩ := hk j _ (List.getElem?_eq_getElem hj)
        obtain ⟨A1, c1, A2, c2, rfl, l1, g1, l2, g2⟩ := k40_open h2
        refine ⟨(l[j].f0.f0, (A1, l[j].f0.f1.length, c1), (A2, l[j].f0.f2.length, c2), l[j].f1), fun p hp => ?_⟩
        rw [List.getElem?_eq_getElem hj] at hp
        obtain rfl := Option.some.inj hp
        have hs := hb _ (List.getElem_mem hj)
        exact ⟨h3, ⟨rfl, rfl, l1, g1, rfl, l2, g2, hs.1, hs.2⟩, rfl⟩
      · exact ⟨zQ, fun p hp => by rw [List.getElem?_eq_none (by omega)] at hp; cases hp⟩
    obtain ⟨f, hf⟩ := Classical.axiomOfChoice key
    have hfl : ((List.range l.length).map f).length = l.length := by simp
    refine ⟨(List.range l.length).map f, ⟨by rw [hfl]; exact hl, hn, fun _ => ⟨ad, e, fun j p hp => ?_⟩⟩, Two.of (by rw [List.length_map, hfl]) (fun j hj => ?_)⟩
    · rw [List.getElem?_map] at hp
      obtain ⟨i, hi, rfl⟩ := Option.map_eq_some_iff.1 hp
      obtain ⟨hi1, hi2⟩ := List.getElem?_eq_some_iff.1 hi
      rw [List.getElem_range] at hi2
      subst hi2
      rw [List.length_range] at hi1
      exact ⟨encQ (f j), rfl, kq_K.2 rfl, (hf j _ (List.getElem?_eq_getElem hi1)).1⟩
    · rw [List.length_map] at hj
      have h2 := (hf j _ (List.getElem?_eq_getElem hj)).2
      rw [List.getD_eq_getElem?_getD, List.getElem?_map, List.getElem?_range hj, List.getD_eq_getElem?_getD, List.getElem?_map, List.getElem?_eq_getElem hj]
      exact h2
  · have e0 : n = 0 := by omega
    subst e0
    have : l = [] := List.length_eq_zero_iff.1 hl
    subst this
    exact ⟨[], ⟨rfl, hn, fun h => absurd h (Nat.lt_irrefl _)⟩, trivial⟩
theorem two_map {R : Q → M → Prop} {w : World} (hR : ∀ q x, R q x → Fl w q x.1 ∧ q.2.2.2 = x.2) (tk : F → Bool) : ∀ {qs : List Q} {l : List M}, Two R qs l → (qs.filter (fun q => tk (decW w q))).map (fun q => (decW w q, q.2.2.2)) = l.filter (fun x => tk x.1)
  | [], [], _ => rfl
  | q :: a, x :: b, h => by
    have e := decW_eq (hR _ _ h.1).1
    rw [List.filter_cons, List.filter_cons, e]
    split
    · rw [List.map_cons, two_map hR tk h.2, e, (hR _ _ h.1).2]
    · exact two_map hR tk h.2
theorem two_mem {R : Q → M → Prop} : ∀ {qs : List Q} {l : List M}, Two R qs l → ∀ q ∈ qs, ∃ x ∈ l, R q x
  | q :: a, x :: b, h, p, hp => by
    rcases List.mem_cons.1 hp with rfl | hp
    · exact ⟨x, by simp, h.1⟩
    · obtain ⟨y, hy, hr⟩ := two_mem h.2 p hp
      exact ⟨y, by simp [hy], hr⟩
  | [], [], _, p, hp => by simp at hp
theorem bag_known (K : Nat) (hK : K ≤ 1099511627776) (hsort : SortUpto K) (n c : Nat) (A : Option Addr) (qs : List Q) (l : List M) (f : FuncId) (cap : Array Value) (tk : F → Bool) (w : World) (hC : kq.C w A n qs) (hn : n ≤ K) (ht : Two (fun q x => Fl w q x.1 ∧ q.2.2.2 = x.2) qs l)
    (hf : ∃ fn, Try.prog.funcs[f]? = some fn ∧ (fn.name == "runtime.NumGoroutine") = false ∧ fn.body.isSome = true)
    (htk : ∀ w', Below w.heap.size w w' → ∀ q x, Fl w' q x → Calls Try.prog f (#[] ++ #[qV q] ++ cap) w' fun e w'' => e = .returned (.bool (tk x)) ∧ Below w'.heap.size w' w'') :
    Calls Try.prog 33 #[.slice A n c, .func (.func f) #[] cap] w fun e w' => ∃ v, e = .returned v ∧ k40.R 40 w' w.heap.size (fun _ => True) v ((bagOf (l.filter fun x => tk x.1)).map s40) ∧ Below w.heap.size w w' := by
  have hd : ∀ q ∈ qs, Fl w q (decW w q) := fun q hq => by
    obtain ⟨x, _, hx⟩ := two_mem ht q hq
    rw [decW_eq hx.1]
    exact hx.1
  have := bag_calls K hK hsort n c A qs f cap (fun q => tk (decW w q)) w hC hn ⟨hf, fun w' hb q hq => htk w' hb q _ ((hd q hq).below hb)⟩ (decW w) hd
  rw [two_map (fun _ _ h => h) tk ht] at this
  exact this
end Go.Proofs.Ytfeeahjaeapkoaa.Ext
end

section
namespace Go.Proofs.Ytfeeahjaeapkoaa.Ext
set_option linter.unusedVariables false
set_option linter.unusedSimpArgs false
open Go.RowKit Go.Proofs.YtfeeahjaeapkoaaW.PrintWords Go.Proofs.YtfeeahjaeapkoaaW.PrintLast Go.Proofs.YtfeeahjaeapkoaaW.PrintMore Go.Proofs.Ytfeeahjaeapkoaa.Lib Go.Proofs.Ytfeeahjaeapkoaa.P
theorem R_shape {α : Type} {d : Kd α} {e : Nat} {w : World} {base : Nat} {ok : Nat → Prop} {v : Value} {xs : List α} (h : d.R e w base ok v xs) {b : Nat} (hb : v.ownBlock = some b) : ∃ c, v = .slice (some ⟨b, 0, none⟩) xs.length c ∧ b < w.heap.size := by
  have hlt := Kd.R_lt h b hb
  obtain ⟨_, inner, ho, _⟩ := h
  rcases ho.2 with ⟨e1, _⟩ | ⟨g, cap, cur, e1, hg, _⟩
  · subst e1; cases hb
  · subst e1
    injection hb with hb
    subst hb
    exact ⟨cap, rfl, hlt⟩
def m27 (x : S27) : M := ((x.f0, x.f1, x.f2), 1)
def Small27 (x : S27) : Prop := x.f1.length ≤ 8796093022208 ∧ x.f2.length ≤ 17592186044416
inductive RelG (w : World) (g n c : Nat) (l : List S27) (v : Value) (w' : World) : Prop
  | mk (i : Nat) (ys : List Q) (e : v = .int .i64 i) (hi : i ≤ n) (hrow : kq.R 40 w' w.heap.size (fun _ => True) (.slice (some ⟨g, 0, none⟩) n c) ys) (hb : Below w.heap.size w w') (hk : ∀ j, j < i → Fl w (ys.getD j zQ) (m27 (rd_T27 l j)).1 ∧ (ys.getD j zQ).2.2.2 = 1)
set_option maxRecDepth 100000 in
set_option maxHeartbeats 1600000 in
theorem Bag_calls (K : Nat) (hK : K ≤ 1099511627776) (hsort : SortUpto K) (n c : Nat) (A : Option Addr) (l : List S27) (w : World) (hC : Kd.C k27 w A n l) (hn : n ≤ K) (hs : ∀ x ∈ l, Small27 x) :
    Calls Try.prog 16 #[.slice A n c] w fun e w' => ∃ v, e = .returned v ∧ k40.R 40 w' w.heap.size (fun _ => True) v ((bagOf (l.map m27)).map s40) ∧ Below w.heap.size w w' := by
  have HC := Aside0.mk hC
  have HS := Aside0.mk hs
  have HL := Aside0.mk (show l.length = n from hC.1)
  have HSort := Aside0.mk hsort
  clear hC hs hsort
  go_enter Try.func16, Try.ntmps16
  go_upto_region 2 with (first
    | ((with_reducible refine gate_dst (N := 8) rfl ?_); refine Kd.R_make kq (w0 := w) w.heap.size 40 rfl (N := 8) rfl 36 _ _ rfl (n : Int) rfl rfl Try.underlying36 (.agg #[.int .i64 0, .slice none 0 0, .slice none 0 0, .int .u64 0]) 64 infoMany rfl (show 0 < 4 from by decide) (by decide) zQ (ok := fun _ => True) (okp := fun _ => True) ?hz (fun _ h => h) trivial (by omega) (by omega) (Below.refl _ _) (Nat.le_refl _) ?_; (case hz => exact kq_M.2 rfl); intro v6 w6 ho6 hb6 hg6 ha6; rw [Int.toNat_natCast] at ho6; obtain ⟨g, hv6, hge6⟩ := ha6; obtain ⟨c6, rfl, hlt6⟩ := R_shape ho6 hv6; rw [List.length_replicate] at ho6 ⊢; have HO := Aside0.mk ho6; have HB := Aside0.mk hb6; have HG := Aside0.mk hge6; clear ho6 hb6 hg6 hv6 hge6 hlt6)
    | fail)
  go_wp2_with fail
  go_loopw [11] (fun v11 w' => RelG w g n c6 l v11 w') (fun v11 _ => n - (intOf v11).toNat)
  case atStart => exact .mk 0 _ rfl (Nat.zero_le _) HO.out HB.out (fun j h => absurd h (Nat.not_lt_zero _))
  case round =>
    clear HO HB
    obtain ⟨i, ys, rfl, hi, hR, hB, hk⟩ := hrel
    have HR := Aside0.mk hR
    have HB := Aside0.mk hB
    have HKn := Aside0.mk hk
    clear hR hB hk
    by_cases hlt : i < n
    · have hii : (i : Int) < (n : Int) := by omega
      obtain ⟨ad, A1, c1, A2, c2, rfl, d0, d1, d2, l1, g1, l2, g2⟩ := at_T27 HC.out (i : Int) (by omega) hii
      simp only [Int.toNat_natCast] at d0 d1 d2
      have HSm := Aside0.mk (HS.out (rd_T27 l i) (by
        have := HL.out
        unfold rd_T27
        rw [Int.toNat_natCast, List.getD_eq_getElem?_getD, List.getElem?_eq_getElem (by omega)]
        exact List.getElem_mem _))
      generalize hx : rd_T27 l i = x at *
      have HX := Aside0.mk hx
      have HFl := Aside0.mk (show Fl w (x.f0, (A1, x.f1.length, c1), (A2, x.f2.length, c2), 1) (m27 x).1 from ⟨rfl, rfl, l1, g1, rfl, l2, g2, HSm.out.1, HSm.out.2⟩)
      clear hx l1 g1 l2 g2
      have d0 := pw_cell_below HB.out d0
      have d1 := pw_cell_below HB.out d1
      have d2 := pw_cell_below HB.out d2
      obtain ⟨cs3, hcs3⟩ := Kd.R_typed HR.out g rfl
      obtain ⟨c0, c1', c2', c3⟩ := kq_get HR.out i hlt
      generalize ys.getD i zQ = p at *
      simp only [encSL] at c1' c2'
      go_upto_region 5 with (first
        | (((with_reducible refine gate_dst (N := 5) rfl ?_); refine box_event ?hg (N := 5) ?hd (cs := #[.int .i64 0, .slice none 0 0, .slice none 0 0]) (t := 27) ?hr ?_; (case hd => rfl); (case hg => rfl); (case hr => first | (go_simp; done) | (go_simp; rfl)); intro g1 hg w1 hbox hb; have GE1 := Aside0.mk (Nat.le_of_eq hg.symm); have BK1 := Aside0.mk hbox; have HX1 := Aside0.mk hb; clear hg hbox hb); (have hg1_0 : w1.cell? ⟨g1, 0, none⟩ = some (.int .i64 0) := (blk_cell BK1.out 0).trans rfl; have hfg1_0 := blk_frozen BK1.out 0; have hg1_1 : w1.cell? ⟨g1, 1, none⟩ = some (.slice none 0 0) := (blk_cell BK1.out 1).trans rfl; have hfg1_1 := blk_frozen BK1.out 1; have hg1_2 : w1.cell? ⟨g1, 2, none⟩ = some (.slice none 0 0) := (blk_cell BK1.out 2).trans rfl; have hfg1_2 := blk_frozen BK1.out 2))
        | fail)
      have HXs := Aside0.mk (show Below wr.heap.size wr (((w1.setCell ⟨g1, 0, none⟩ (.int .i64 x.f0)).setCell ⟨g1, 1, none⟩ (.slice A1 x.f1.length c1)).setCell ⟨g1, 2, none⟩ (.slice A2 x.f2.length c2)) from below_set (below_set (below_set HX1.out GE1.out) GE1.out) GE1.out)
      have BKs := Aside0.mk (show (((w1.setCell ⟨g1, 0, none⟩ (.int .i64 x.f0)).setCell ⟨g1, 1, none⟩ (.slice A1 x.f1.length c1)).setCell ⟨g1, 2, none⟩ (.slice A2 x.f2.length c2)).heap[g1]? = some (.cells #[.int .i64 x.f0, .slice A1 x.f1.length c1, .slice A2 x.f2.length c2] 27 (0, 0)) from (blk_set (blk_set (blk_set BK1.out 0 _) 1 _) 2 _))
      clear hg1_0 hfg1_0 hg1_1 hfg1_1 hg1_2 hfg1_2 d0 d1 d2
      generalize (((w1.setCell ⟨g1, 0, none⟩ (.int .i64 x.f0)).setCell ⟨g1, 1, none⟩ (.slice A1 x.f1.length c1)).setCell ⟨g1, 2, none⟩ (.slice A2 x.f2.length c2)) = w2 at *
      (have hg1_0 : w2.cell? ⟨g1, 0, none⟩ = some (.int .i64 x.f0) := (blk_cell BKs.out 0).trans rfl; have hfg1_0 := blk_frozen BKs.out 0; have hg1_1 : w2.cell? ⟨g1, 1, none⟩ = some (.slice A1 x.f1.length c1) := (blk_cell BKs.out 1).trans rfl; have hfg1_1 := blk_frozen BKs.out 1; have hg1_2 : w2.cell? ⟨g1, 2, none⟩ = some (.slice A2 x.f2.length c2) := (blk_cell BKs.out 2).trans rfl; have hfg1_2 := blk_frozen BKs.out 2)
      have c0 := pw_cell_below HXs.out c0
      have c1' := pw_cell_below HXs.out c1'
      have c2' := pw_cell_below HXs.out c2'
      have c3 := pw_cell_below HXs.out c3
      have hfz : ∀ o, w2.frozen? ⟨g, o, none⟩ = false := fun o => blk_frozen (blk_below hcs3 HXs.out) o
      have HP := Aside0.mk (kq_put (Kd.R_below HR.out HXs.out) i hlt (x.f0, (A1, x.f1.length, c1), (A2, x.f2.length, c2), 1))
      have HBs := Aside0.mk (below_then HB.out HB.out.size HXs.out)
      rw [set4] at HP
      go_wp2_with fail
      go_roundw
      case rel =>
        exact .mk (i + 1) _ (by go_num) (by omega) HP.out.1 (below_set (below_set (below_set (below_set HBs.out HG.out) HG.out) HG.out) HG.out) (fun j hj => by
          have hyl : ys.length = n := (Kd.R_reads' HR.out).1.symm
          by_cases e : j = i
          · subst e
            rw [getD_set_eq _ _ _ (by omega), HX.out]
            exact ⟨HFl.out, rfl⟩
          · rw [getD_set_ne _ _ _ _ (fun h => e h.symm)]
            exact HKn.out j (by omega))
      case measure => simp [intOf]; omega
    · obtain rfl : i = n := by omega
      have hii : decide (i < i) = false := decide_eq_false (by omega)
      have HT := Aside0.mk (show Two (fun q x => Fl wr q x.1 ∧ q.2.2.2 = x.2) ys (l.map m27) from Two.of (by rw [List.length_map, HL.out]; exact (Kd.R_reads' HR.out).1) (fun j hj => by
        rw [List.length_map, HL.out] at hj
        obtain ⟨h1, h2⟩ := HKn.out j hj
        have e : (l.map m27).getD j zM = m27 (rd_T27 l j) := by
          have := HL.out
          unfold rd_T27
          rw [Int.toNat_natCast, List.getD_eq_getElem?_getD, List.getElem?_map, List.getElem?_eq_getElem (by omega), List.getD_eq_getElem?_getD, List.getElem?_eq_getElem (by omega)]
          rfl
        rw [e]
        exact ⟨h1.below HB.out, h2⟩))
      have HC2 := Aside0.mk (show kq.C wr (some ⟨g, 0, none⟩) i ys by have := (Kd.R_reads' HR.out).2.2; rwa [← (Kd.R_reads' HR.out).1] at this)
      clear hlt HKn
      go_wp2_with (first | (go_at_call 33; refine (bag_known K hK HSort.out i c6 (some ⟨g, 0, none⟩) ys (l.map m27) 34 #[] (fun _ => true) wr HC2.out hn HT.out ⟨_, Try.func34, rfl, rfl⟩ (fun w' _ q x hq => all_calls _ _ _ rfl rfl rfl w')).mono ?_; rintro e w7 ⟨v7, rfl, hr7, hb7⟩; have HR7 := Aside0.mk hr7; have HB7 := Aside0.mk (below_then HB.out HB.out.size hb7); clear hr7 hb7) | fail)
      go_ret
      refine ⟨v7, rfl, ?_, HB7.out⟩
      have h := HR7.out
      rw [List.filter_eq_self.2 (fun _ _ => rfl)] at h
      exact Kd.R_lower h HB.out.size
end Go.Proofs.Ytfeeahjaeapkoaa.Ext
end

section
namespace Go.Proofs.Ytfeeahjaeapkoaa.Ext
set_option linter.unusedVariables false
set_option linter.unusedSimpArgs false
open Go.RowKit Go.Proofs.YtfeeahjaeapkoaaW.PrintWords
abbrev at_ (xs : List Q) : Nat → Q := fun i => xs.getD i zQ
def swapF (p q n : Nat) (f : Nat → Q) (i : Nat) : Q := if p ≤ i ∧ i < p + n then f (i - p + q) else if q ≤ i ∧ i < q + n then f (i - q + p) else f i
def rotF (a m b : Nat) (f : Nat → Q) (i : Nat) : Q := if i < a then f i else if i < a + (b - m) then f (i - a + m) else if i < b then f (i - (b - m)) else f i
theorem swapF_zero (p q : Nat) (f : Nat → Q) : swapF p q 0 f = f := by
  funext i; unfold swapF; rw [if_neg (by omega), if_neg (by omega)]
theorem rot_more (m i j : Nat) (f : Nat → Q) (hi : i ≤ m) (hj : j < i) (hj0 : 0 < j) : rotF (m - (i - j)) m (m + j) (swapF (m - i) m j f) = rotF (m - i) m (m + j) f := by
  funext x
  unfold rotF swapF
  try dsimp only
  repeat' split
  all_goals first | (exfalso; omega) | rfl | (refine congrArg f ?_; omega)
theorem rot_less (m i j : Nat) (f : Nat → Q) (hi : i ≤ m) (hj : i < j) (hi0 : 0 < i) : rotF (m - i) m (m + (j - i)) (swapF (m - i) (m + j - i) i f) = rotF (m - i) m (m + j) f := by
  funext x
  unfold rotF swapF
  try dsimp only
  repeat' split
  all_goals first | (exfalso; omega) | rfl | (refine congrArg f ?_; omega)
theorem rot_same (m i : Nat) (f : Nat → Q) (hi : i ≤ m) : swapF (m - i) m i f = rotF (m - i) m (m + i) f := by
  funext x
  unfold rotF swapF
  try dsimp only
  repeat' split
  all_goals first | (exfalso; omega) | rfl | (refine congrArg f ?_; omega)
theorem rot_none1 (m b : Nat) (f : Nat → Q) : rotF m m b f = f := by
  funext x
  unfold rotF
  repeat' split
  all_goals first | rfl | (exfalso; omega) | (refine congrArg f ?_; omega)
theorem rot_none2 (a m : Nat) (f : Nat → Q) : rotF a m m f = f := by
  funext x
  unfold rotF
  repeat' split
  all_goals first | rfl | (exfalso; omega) | (refine congrArg f ?_; omega)
theorem rot_right (a k : Nat) (f : Nat → Q) (hk : a ≤ k) : swapF k (k + 1) 1 (rotF a (a + 1) (k + 1) f) = rotF a (a + 1) (k + 2) f := by
  funext x
  unfold rotF swapF
  try dsimp only
  repeat' split
  all_goals first | (exfalso; omega) | rfl | (refine congrArg f ?_; omega)
theorem rot_left (k m : Nat) (f : Nat → Q) (hk : k < m) : swapF (k + 1) k 1 (rotF (k + 1) m (m + 1) f) = rotF k m (m + 1) f := by
  funext x
  unfold rotF swapF
  try dsimp only
  repeat' split
  all_goals first | (exfalso; omega) | rfl | (refine congrArg f ?_; omega)
def SrtOn (cf : Q → Q → Int) (f : Nat → Q) (a b : Nat) : Prop := ∀ i j, a ≤ i → i ≤ j → j < b → ¬ cf (f j) (f i) < 0
section
variable {cf : Q → Q → Int} (hp : Pre cf) {f : Nat → Q} {a s m e b : Nat}
include hp in
theorem sym_cross (h1 : SrtOn cf f a m) (h2 : SrtOn cf f m b) (ha : a ≤ s) (hs : s ≤ m) (hm : m ≤ e) (he : e ≤ b) (c1 : a < s → e < b → ¬ cf (f e) (f (s - 1)) < 0) (c2 : s < m → m < e → cf (f (e - 1)) (f s) < 0) :
    ∀ i j, a ≤ i → i < s + (e - m) → s + (e - m) ≤ j → j < b → ¬ cf (rotF s m e f j) (rotF s m e f i) < 0 := by
  intro i j hi1 hi2 hj1 hj2
  have ei : rotF s m e f i = if i < s then f i else f (i - s + m) := by
    unfold rotF; repeat' split
    all_goals first | rfl | (exfalso; omega) | (refine congrArg f ?_; omega)
  have ej : rotF s m e f j = if j < e then f (j - (e - m)) else f j := by
    unfold rotF; repeat' split
    all_goals first | rfl | (exfalso; omega) | (refine congrArg f ?_; omega)
  rw [ei, ej]
  by_cases x1 : i < s
  · rw [if_pos x1]
    by_cases x2 : j < e
    · rw [if_pos x2]; exact h1 _ _ hi1 (by omega) (by omega)
    · rw [if_neg x2]
      exact hp.trans _ _ _ (h2 e j (by omega) (by omega) hj2) (hp.trans _ _ _ (c1 (by omega) (by omega)) (h1 i (s - 1) hi1 (by omega) (by omega)))
  · rw [if_neg x1]
    by_cases x2 : j < e
    · rw [if_pos x2]
      exact hp.trans _ _ _ (h1 s (j - (e - m)) ha (by omega) (by omega)) (hp.trans _ _ _ (hp.asym _ _ (c2 (by omega) (by omega))) (h2 (i - s + m) (e - 1) (by omega) (by omega) (by omega)))
    · rw [if_neg x2]; exact h2 _ _ (by omega) (by omega) hj2
theorem sym_one (h1 : SrtOn cf f a m) (hs : s ≤ m) (hm : m ≤ e) : SrtOn cf (rotF s m e f) a s := fun i j x y z => by
  unfold rotF; rw [if_pos (by omega), if_pos (by omega)]; exact h1 i j x y (by omega)
theorem sym_two (h2 : SrtOn cf f m b) (hs : s ≤ m) (hm : m ≤ e) (he : e ≤ b) : SrtOn cf (rotF s m e f) s (s + (e - m)) := fun i j x y z => by
  unfold rotF; rw [if_neg (by omega), if_pos (by omega), if_neg (by omega), if_pos (by omega)]; exact h2 _ _ (by omega) (by omega) (by omega)
theorem sym_three (h1 : SrtOn cf f a m) (ha : a ≤ s) (hs : s ≤ m) (hm : m ≤ e) : SrtOn cf (rotF s m e f) (s + (e - m)) e := fun i j x y z => by
  unfold rotF; rw [if_neg (by omega), if_neg (by omega), if_pos (by omega), if_neg (by omega), if_neg (by omega), if_pos (by omega)]; exact h1 _ _ (by omega) (by omega) (by omega)
theorem sym_four (h2 : SrtOn cf f m b) (hs : s ≤ m) (hm : m ≤ e) : SrtOn cf (rotF s m e f) e b := fun i j x y z => by
  unfold rotF; rw [if_neg (by omega), if_neg (by omega), if_neg (by omega), if_neg (by omega), if_neg (by omega), if_neg (by omega)]; exact h2 i j (by omega) y z
structure In (a b : Nat) (f g : Nat → Q) : Prop where
  out : ∀ i, (i < a ∨ b ≤ i) → g i = f i
  inn : ∀ i, a ≤ i → i < b → ∃ j, a ≤ j ∧ j < b ∧ g i = f j
theorem In.refl (a b : Nat) (f : Nat → Q) : In a b f f := ⟨fun _ _ => rfl, fun i h1 h2 => ⟨i, h1, h2, rfl⟩⟩
theorem In.wide {c d : Nat} {g : Nat → Q} (h : In c d f g) (h1 : a ≤ c) (h2 : d ≤ b) : In a b f g :=
  ⟨fun i hi => h.out i (by omega), fun i x y => by
    by_cases z : c ≤ i ∧ i < d
    · obtain ⟨j, u, v, r⟩ := h.inn i z.1 z.2; exact ⟨j, by omega, by omega, r⟩
    · exact ⟨i, x, y, h.out i (by omega)⟩⟩
theorem In.trans {g k : Nat → Q} (h : In a b f g) (h' : In a b g k) : In a b f k :=
  ⟨fun i hi => (h'.out i hi).trans (h.out i hi), fun i x y => by
    obtain ⟨j, u, v, r⟩ := h'.inn i x y
    obtain ⟨j2, u2, v2, r2⟩ := h.inn j u v
    exact ⟨j2, u2, v2, r.trans r2⟩⟩
theorem rot_in (hs : s ≤ m) (hm : m ≤ e) : In s e f (rotF s m e f) :=
  ⟨fun i hi => by unfold rotF; repeat' split
                  all_goals first | rfl | (exfalso; omega), fun i x y => by
    unfold rotF
    repeat' split
    all_goals first | exact ⟨_, by omega, by omega, rfl⟩ | (exfalso; omega)⟩
theorem SrtOn.out {f g : Nat → Q} {c d : Nat} (h : SrtOn cf f c d) (hi : In a b f g) (hd : d ≤ a ∨ b ≤ c) : SrtOn cf g c d := fun i j x y z => by
  rw [hi.out i (by omega), hi.out j (by omega)]; exact h i j x y z
theorem SrtOn.mono {f : Nat → Q} {a b c d : Nat} (h : SrtOn cf f a b) (h1 : a ≤ c) (h2 : d ≤ b) : SrtOn cf f c d := fun i j x y z => h i j (by omega) y (by omega)
theorem srt_join {f : Nat → Q} {a b mid : Nat} (h1 : SrtOn cf f a mid) (h2 : SrtOn cf f mid b) (hx : ∀ i j, a ≤ i → i < mid → mid ≤ j → j < b → ¬ cf (f j) (f i) < 0) : SrtOn cf f a b := fun i j x y z => by
  by_cases u : j < mid
  · exact h1 i j x y u
  · by_cases v : i < mid
    · exact hx i j x v (by omega) z
    · exact h2 i j (by omega) y z
theorem sym_done {f g k h : Nat → Q} {mid : Nat} (hg1 : In a mid g k) (hk : SrtOn cf k a mid) (hg2 : In mid b k h) (hh : SrtOn cf h mid b) (hx : ∀ i j, a ≤ i → i < mid → mid ≤ j → j < b → ¬ cf (g j) (g i) < 0) : SrtOn cf h a b := by
  refine srt_join (hk.out hg2 (.inl (Nat.le_refl _))) hh (fun i j x y z u => ?_)
  obtain ⟨j2, p1, p2, e2⟩ := hg2.inn j z u
  obtain ⟨i2, q1, q2, e1⟩ := hg1.inn i x y
  rw [e2, hg2.out i (.inl y), e1, hg1.out j2 (.inr p1)]
  exact hx i2 j2 q1 q2 p1 p2
include hp in
theorem sym_leaf (h1 : SrtOn cf f a m) (h2 : SrtOn cf f m b) (ha : a ≤ s) (hs : s ≤ m) (hm : m ≤ e) (he : e ≤ b) (ab : a < s → m < e → ¬ cf (f m) (f (s - 1)) < 0) (bc : s < m → m < e → ¬ cf (f s) (f (e - 1)) < 0) (cd : s < m → e < b → ¬ cf (f e) (f (m - 1)) < 0) (ad : a < s → e < b → ¬ cf (f e) (f (s - 1)) < 0) :
    SrtOn cf (rotF s m e f) a b := by
  refine srt_join (mid := s + (e - m)) ?_ ?_ ?_
  · refine srt_join (mid := s) (sym_one h1 hs hm) (sym_two h2 hs hm he) (fun i j x y z u => ?_)
    unfold rotF
    rw [if_neg (by omega), if_pos (by omega), if_pos (by omega)]
    exact hp.trans _ _ _ (h2 m (j - s + m) (by omega) (by omega) (by omega)) (hp.trans _ _ _ (ab (by omega) (by omega)) (h1 i (s - 1) x (by omega) (by omega)))
  · refine srt_join (mid := e) (sym_three h1 ha hs hm) (sym_four h2 hs hm) (fun i j x y z u => ?_)
    unfold rotF
    rw [if_neg (by omega), if_neg (by omega), if_neg (by omega), if_neg (by omega), if_neg (by omega), if_pos (by omega)]
    exact hp.trans _ _ _ (h2 e j (by omega) (by omega) (by omega)) (hp.trans _ _ _ (cd (by omega) (by omega)) (h1 _ (m - 1) (by omega) (by omega) (by omega)))
  · intro i j x y z u
    have ei : rotF s m e f i = if i < s then f i else f (i - s + m) := by
      unfold rotF; repeat' split
      all_goals first | rfl | (exfalso; omega) | (refine congrArg f ?_; omega)
    have ej : rotF s m e f j = if j < e then f (j - (e - m)) else f j := by
      unfold rotF; repeat' split
      all_goals first | rfl | (exfalso; omega) | (refine congrArg f ?_; omega)
    rw [ei, ej]
    by_cases x1 : i < s
    · rw [if_pos x1]
      by_cases x2 : j < e
      · rw [if_pos x2]; exact h1 _ _ x (by omega) (by omega)
      · rw [if_neg x2]
        exact hp.trans _ _ _ (h2 e j (by omega) (by omega) u) (hp.trans _ _ _ (ad (by omega) (by omega)) (h1 i (s - 1) x (by omega) (by omega)))
    · rw [if_neg x1]
      by_cases x2 : j < e
      · rw [if_pos x2]
        exact hp.trans _ _ _ (h1 s (j - (e - m)) ha (by omega) (by omega)) (hp.trans _ _ _ (bc (by omega) (by omega)) (h2 (i - s + m) (e - 1) (by omega) (by omega) (by omega)))
      · rw [if_neg x2]; exact h2 _ _ (by omega) (by omega) u
end
theorem swap_at (xs : List Q) (i j : Nat) (hi : i < xs.length) (hj : j < xs.length) (hij : i ≠ j) : at_ ((xs.set i (at_ xs j)).set j (at_ xs i)) = swapF i j 1 (at_ xs) := by
  funext x
  unfold swapF
  try dsimp only
  show ((xs.set i _).set j _).getD x zQ = _
  rw [List.getD_eq_getElem?_getD, List.getElem?_set, List.getElem?_set, List.length_set]
  by_cases c1 : j = x
  · subst c1
    rw [if_pos rfl, if_pos hj, if_neg (by omega), if_pos (by omega), Nat.sub_self, Nat.zero_add]; rfl
  · rw [if_neg c1]
    by_cases c2 : i = x
    · subst c2
      rw [if_pos rfl, if_pos hi, if_pos (by omega), Nat.sub_self, Nat.zero_add]; rfl
    · rw [if_neg c2, if_neg (by omega), if_neg (by omega), ← List.getD_eq_getElem?_getD]
theorem two_sets (A B C : List Q) (u v : Q) : ((A ++ u :: (B ++ v :: C)).set A.length v).set (A.length + (B.length + 1)) u = A ++ v :: (B ++ u :: C) := by
  rw [List.set_append_right _ _ (Nat.le_refl _), Nat.sub_self]
  show (A ++ v :: (B ++ v :: C)).set _ _ = _
  rw [List.set_append_right _ _ (by omega), Nat.add_sub_cancel_left]
  show A ++ v :: (B ++ v :: C).set B.length u = _
  rw [List.set_append_right _ _ (Nat.le_refl _), Nat.sub_self]
  rfl
theorem swapF_next (p q n : Nat) (f : Nat → Q) (h : p + n < q ∨ q + n < p) : swapF (p + n) (q + n) 1 (swapF p q n f) = swapF p q (n + 1) f := by
  funext x
  unfold swapF
  try dsimp only
  repeat' split
  all_goals first | (exfalso; omega) | rfl | (refine congrArg f ?_; omega)
theorem set_perm (xs : List Q) (i j : Nat) (hj : j < xs.length) (hij : i < j) : ((xs.set i (at_ xs j)).set j (at_ xs i)).Perm xs := by
  have hi : i < xs.length := by omega
  have h1 : at_ xs i = xs[i] := by show xs.getD i zQ = _; rw [List.getD_eq_getElem?_getD, List.getElem?_eq_getElem hi]; rfl
  have h2 : at_ xs j = xs[j] := by show xs.getD j zQ = _; rw [List.getD_eq_getElem?_getD, List.getElem?_eq_getElem hj]; rfl
  rw [h1, h2]
  have e : xs = xs.take i ++ xs[i] :: ((xs.drop (i + 1)).take (j - (i + 1)) ++ xs[j] :: xs.drop (j + 1)) := by
    have e2 : (xs.drop (i + 1)).drop (j - (i + 1)) = xs[j] :: xs.drop (j + 1) := by rw [List.drop_drop, show i + 1 + (j - (i + 1)) = j by omega, List.drop_eq_getElem_cons hj]
    rw [← e2, List.take_append_drop, ← List.drop_eq_getElem_cons hi, List.take_append_drop]
  have hl1 : (xs.take i).length = i := by rw [List.length_take]; omega
  have hl2 : ((xs.drop (i + 1)).take (j - (i + 1))).length = j - (i + 1) := by rw [List.length_take, List.length_drop]; omega
  generalize xs[i] = u at *
  generalize xs[j] = v at *
  generalize xs.take i = A at *
  generalize (xs.drop (i + 1)).take (j - (i + 1)) = B at *
  generalize xs.drop (j + 1) = C at *
  have e2 : (xs.set i v).set j u = A ++ v :: (B ++ u :: C) := by
    rw [e, show i = A.length from hl1.symm, show j = A.length + (B.length + 1) by omega]
    exact two_sets A B C u v
  rw [e2, e]
  refine List.Perm.append_left _ ?_
  exact (List.Perm.cons v List.perm_middle).trans ((List.Perm.swap u v _).trans (List.Perm.cons u List.perm_middle.symm))
end Go.Proofs.Ytfeeahjaeapkoaa.Ext
end

section
namespace Go.Proofs.Ytfeeahjaeapkoaa.Ext
set_option linter.unusedVariables false
set_option linter.unusedSimpArgs false
open Go.RowKit Go.Proofs.YtfeeahjaeapkoaaW.PrintWords Go.Proofs.YtfeeahjaeapkoaaW.PrintLast Go.Proofs.YtfeeahjaeapkoaaW.PrintMore Go.Proofs.Ytfeeahjaeapkoaa.Lib
theorem w64 {a : Int} {b : Nat} (h : a = (b : Int)) (hb : b < 9223372036854775808) : wrap64 a = (b : Int) := by
  subst h; unfold wrap64; omega
theorem RS.trans {w w' w2 : World} {base : Nat} {ok : Nat → Prop} {g n c : Nat} {xs ys zs : List Q} (h : RS w w' base ok g n c xs ys) (h2 : RS w' w2 base ok g n c ys zs) : RS w w2 base ok g n c xs zs := ⟨h2.row, h2.perm.trans h.perm, grown_trans h.grown h2.grown⟩
theorem RS.refl {w : World} {base : Nat} {ok : Nat → Prop} {g n c : Nat} {xs : List Q} (h : kq.R 40 w base ok (.slice (some ⟨g, 0, none⟩) n c) xs) : RS w w base ok g n c xs xs := ⟨h, List.Perm.refl _, ⟨rfl, rfl, rfl, Nat.le_refl _, fun _ _ _ => rfl⟩⟩
theorem RS.len {w w' : World} {base : Nat} {ok : Nat → Prop} {g n c : Nat} {xs ys : List Q} (h : RS w w' base ok g n c xs ys) : ys.length = n := (Kd.R_reads' h.row).1.symm
theorem RS.swap2 {w w' : World} {base : Nat} {ok : Nat → Prop} {g n c : Nat} {xs zs : List Q} (h : RS w w' base ok g n c xs zs) (i j : Nat) (hij : i ≠ j) (hi : i < n) (hj : j < n) (p q : Q) (hp : zs.getD i zQ = p) (hq : zs.getD j zQ = q) :
    RS w ((((((((w'.setCell ⟨g, i * 4, none⟩ (.int .i64 q.1)).setCell ⟨g, i * 4 + 1, none⟩ (.slice q.2.1.1 q.2.1.2.1 q.2.1.2.2)).setCell ⟨g, i * 4 + 2, none⟩ (.slice q.2.2.1.1 q.2.2.1.2.1 q.2.2.1.2.2)).setCell ⟨g, i * 4 + 3, none⟩ (.int .u64 q.2.2.2)).setCell ⟨g, j * 4, none⟩ (.int .i64 p.1)).setCell ⟨g, j * 4 + 1, none⟩ (.slice p.2.1.1 p.2.1.2.1 p.2.1.2.2)).setCell ⟨g, j * 4 + 2, none⟩ (.slice p.2.2.1.1 p.2.2.1.2.1 p.2.2.1.2.2)).setCell ⟨g, j * 4 + 3, none⟩ (.int .u64 p.2.2.2)) base ok g n c xs ((zs.set i q).set j p) ∧ at_ ((zs.set i q).set j p) = swapF i j 1 (at_ zs) := by
  subst hp hq
  have hl := h.len
  obtain ⟨r1, g1⟩ := kq_put h.row i hi (zs.getD j zQ)
  obtain ⟨r2, g2⟩ := kq_put r1 j hj (zs.getD i zQ)
  have hperm : ((zs.set i (at_ zs j)).set j (at_ zs i)).Perm zs := by
    rcases Nat.lt_or_gt_of_ne hij with h1 | h1
    · exact set_perm zs i j (by omega) h1
    · rw [List.set_comm _ _ (by omega)]; exact set_perm zs j i (by omega) h1
  have := (show RS w ((w'.setCells g (i * 4) (encQ (zs.getD j zQ))).setCells g (j * 4) (encQ (zs.getD i zQ))) base ok g n c xs ((zs.set i (zs.getD j zQ)).set j (zs.getD i zQ)) from ⟨r2, hperm.trans h.perm, grown_trans (grown_trans h.grown g1) g2⟩)
  rw [set4, set4] at this
  exact ⟨this, swap_at zs i j (by omega) (by omega) hij⟩
set_option maxRecDepth 100000 in
set_option maxHeartbeats 1600000 in
theorem swapr_calls (fv : Value) (g c n a b k : Nat) (xs : List Q) (w : World) (base : Nat) (ok : Nat → Prop)
    (hrow : kq.R 40 w base ok (.slice (some ⟨g, 0, none⟩) n c) xs) (hab : a + k ≤ b ∨ b + k ≤ a) (ha : a + k ≤ n) (hb : b + k ≤ n) (hn : n ≤ 4611686018427387904) :
    Calls Try.prog 60 #[.slice (some ⟨g, 0, none⟩) n c, .int .i64 a, .int .i64 b, .int .i64 k, fv] w fun e w' => e = .returned (.tuple #[]) ∧ ∃ ys, RS w w' base ok g n c xs ys ∧ at_ ys = swapF a b k (at_ xs) := by
  have HR := Aside0.mk (RS.refl hrow)
  clear hrow
  go_enter Try.func60, Try.ntmps60
  go_wp2_with fail
  go_loopw [10] (fun v10 w' => ∃ (i : Nat) (ys : List Q), v10 = .int .i64 i ∧ i ≤ k ∧ Aside0 (RS w w' base ok g n c xs ys) ∧ Aside0 (at_ ys = swapF a b i (at_ xs))) (fun v10 _ => k - (intOf v10).toNat)
  case atStart => exact ⟨0, xs, rfl, Nat.zero_le _, HR, ⟨(swapF_zero a b _).symm⟩⟩
  case round =>
    clear HR
    obtain ⟨i, ys, rfl, hik, HR, HS⟩ := hrel
    by_cases hlt : i < k
    · have hlt2 : (i : Int) < (k : Int) := by omega
      obtain ⟨x, hx⟩ : ∃ x, x = a + i := ⟨_, rfl⟩
      obtain ⟨y, hy⟩ : ∃ y, y = b + i := ⟨_, rfl⟩
      obtain ⟨d10, d11, d12, d13⟩ := kq_get HR.out.row y (by omega)
      obtain ⟨d00, d01, d02, d03⟩ := kq_get HR.out.row x (by omega)
      simp only [encSL] at d11 d12 d01 d02
      have HSw := Aside0.mk (RS.swap2 HR.out x y (by omega) (by omega) (by omega) _ _ rfl rfl)
      have HS2 := Aside0.mk (show swapF x y 1 (at_ ys) = swapF a b (i + 1) (at_ xs) by
        rw [HS.out, hx, hy]
        exact swapF_next a b i _ (by omega))
      obtain ⟨cs3, hcs3⟩ := Kd.R_typed HR.out.row g rfl
      have hfz : ∀ o, wr.frozen? ⟨g, o, none⟩ = false := fun o => blk_frozen hcs3 o
      have hai : (x : Int) < (n : Int) := by omega
      have hbi : (y : Int) < (n : Int) := by omega
      have hwa : wrap64 ((a : Int) + (i : Int)) = (x : Int) := by unfold wrap64; omega
      have hwb : wrap64 ((b : Int) + (i : Int)) = (y : Int) := by unfold wrap64; omega
      generalize hp : ys.getD x zQ = p at *
      generalize hq : ys.getD y zQ = q at *
      have hxy : ¬ x = y := by omega
      have hyx : ¬ y = x := by omega
      clear hp hq hx hy
      go_wp2_with fail
      refine start_ (n := 24) (S := fun w' => w'.cell? ⟨g, y * 4, none⟩ = some (.int .i64 q.1) ∧ w'.cell? ⟨g, y * 4 + 1, none⟩ = some (.slice q.2.1.1 q.2.1.2.1 q.2.1.2.2) ∧ w'.cell? ⟨g, y * 4 + 2, none⟩ = some (.slice q.2.2.1.1 q.2.2.1.2.1 q.2.2.1.2.2) ∧ w'.cell? ⟨g, y * 4 + 3, none⟩ = some (.int .u64 q.2.2.2) ∧ w'.cell? ⟨g, x * 4, none⟩ = some (.int .i64 p.1) ∧ w'.cell? ⟨g, x * 4 + 1, none⟩ = some (.slice p.2.1.1 p.2.1.2.1 p.2.1.2.2) ∧ w'.cell? ⟨g, x * 4 + 2, none⟩ = some (.slice p.2.2.1.1 p.2.2.1.2.1 p.2.2.1.2.2) ∧ w'.cell? ⟨g, x * 4 + 3, none⟩ = some (.int .u64 p.2.2.2) ∧ ∀ o, w'.frozen? ⟨g, o, none⟩ = false) (ds := [21, 23]) #[false, false, false, false, false, false, false, false, false, false, false, false, false, false, false, false, false, false, false, false, false, false, false, false] (by kernel_rfl) rfl rfl ⟨d10, d11, d12, d13, d00, d01, d02, d03, hfz⟩ (fun hHeld => ?_)
      refine pure_ (i := 0) (N := some 16) (v := ?_) (a' := ?_) #[true, false, false, false, false, false, false, false, false, false, false, false, false, false, false, false, false, false, false, false, false, false, false, false] rfl rfl (by kernel_rfl) (fun _ _ _ h => h) (Or.inl ⟨by rfl, ?_⟩) ?_ ?_
      rotate_left
      · intro w'
        go_simp
        with_reducible rfl
      rotate_left
      · simp only [Act.put, List.setIfInBounds_toArray, List.set_cons_zero, List.set_cons_succ, i64_w, i32_w]
        rfl
      refine pure_ (i := 1) (N := some 17) (v := ?_) (a' := ?_) #[true, true, false, false, false, false, false, false, false, false, false, false, false, false, false, false, false, false, false, false, false, false, false, false] rfl rfl (by kernel_rfl) (fun _ _ _ h => h) (Or.inl ⟨by rfl, ?_⟩) ?_ ?_
      rotate_left
      · intro w'
        go_simp
        with_reducible rfl
      rotate_left
      · simp only [Act.put, List.setIfInBounds_toArray, List.set_cons_zero, List.set_cons_succ, i64_w, i32_w]
        rfl
      refine pure_ (i := 2) (N := some 18) (v := ?_) (a' := ?_) #[true, true, true, false, false, false, false, false, false, false, false, false, false, false, false, false, false, false, false, false, false, false, false, false] rfl rfl (by kernel_rfl) (fun _ _ _ h => h) (Or.inl ⟨by rfl, ?_⟩) ?_ ?_
      rotate_left
      · intro w'
        go_simp
        with_reducible rfl
      rotate_left
      · simp only [Act.put, List.setIfInBounds_toArray, List.set_cons_zero, List.set_cons_succ, i64_w, i32_w]
        rfl
      refine pure_ (i := 3) (N := some 19) (v := ?_) (a' := ?_) #[true, true, true, true, false, false, false, false, false, false, false, false, false, false, false, false, false, false, false, false, false, false, false, false] rfl rfl (by kernel_rfl) (fun _ _ _ h => h) (Or.inl ⟨by rfl, ?_⟩) ?_ ?_
      rotate_left
      · intro w'
        go_simp
        with_reducible rfl
      rotate_left
      · simp only [Act.put, List.setIfInBounds_toArray, List.set_cons_zero, List.set_cons_succ, i64_w, i32_w]
        rfl
      refine pure_ (i := 4) (N := some 20) (v := ?_) (a' := ?_) #[true, true, true, true, true, false, false, false, false, false, false, false, false, false, false, false, false, false, false, false, false, false, false, false] rfl rfl (by kernel_rfl) (fun _ _ _ h => h) (Or.inl ⟨by rfl, ?_⟩) ?_ ?_
      rotate_left
      · intro w'
        go_simp
        with_reducible rfl
      rotate_left
      · simp only [Act.put, List.setIfInBounds_toArray, List.set_cons_zero, List.set_cons_succ, i64_w, i32_w]
        rfl
      refine pure_ (i := 5) (N := some 21) (v := ?_) (a' := ?_) #[true, true, true, true, true, true, false, false, false, false, false, false, false, false, false, false, false, false, false, false, false, false, false, false] rfl rfl (by kernel_rfl) (fun _ _ _ h => h) (Or.inl ⟨by rfl, ?_⟩) ?_ ?_
      rotate_left
      · intro w'
        go_simp
        with_reducible rfl
      rotate_left
      · simp only [Act.put, List.setIfInBounds_toArray, List.set_cons_zero, List.set_cons_succ, i64_w, i32_w]
        rfl
      refine pure_ (i := 6) (N := some 22) (v := ?_) (a' := ?_) #[true, true, true, true, true, true, true, false, false, false, false, false, false, false, false, false, false, false, false, false, false, false, false, false] rfl rfl (by kernel_rfl) (fun _ _ _ h => h) (Or.inl ⟨by rfl, ?_⟩) ?_ ?_
      rotate_left
      · intro w'
        go_simp
        with_reducible rfl
      rotate_left
      · simp only [Act.put, List.setIfInBounds_toArray, List.set_cons_zero, List.set_cons_succ, i64_w, i32_w]
        rfl
      refine pure_ (i := 7) (N := some 23) (v := ?_) (a' := ?_) #[true, true, true, true, true, true, true, true, false, false, false, false, false, false, false, false, false, false, false, false, false, false, false, false] rfl rfl (by kernel_rfl) (fun _ _ _ h => h) (Or.inl ⟨by rfl, ?_⟩) ?_ ?_
      rotate_left
      · intro w'
        go_simp
        with_reducible rfl
      rotate_left
      · simp only [Act.put, List.setIfInBounds_toArray, List.set_cons_zero, List.set_cons_succ, i64_w, i32_w]
        rfl
      refine pure_ (i := 8) (N := some 24) (v := ?_) (a' := ?_) #[true, true, true, true, true, true, true, true, true, false, false, false, false, false, false, false, false, false, false, false, false, false, false, false] rfl rfl (by kernel_rfl) (fun _ _ _ h => h) (Or.inl ⟨by rfl, ?_⟩) ?_ ?_
      rotate_left
      · intro w'
        go_simp
        with_reducible rfl
      rotate_left
      · simp only [Act.put, List.setIfInBounds_toArray, List.set_cons_zero, List.set_cons_succ, i64_w, i32_w]
        rfl
      refine pure_ (i := 9) (N := some 25) (v := ?_) (a' := ?_) #[true, true, true, true, true, true, true, true, true, true, false, false, false, false, false, false, false, false, false, false, false, false, false, false] rfl rfl (by kernel_rfl) (fun _ _ _ h => h) (Or.inl ⟨by rfl, ?_⟩) ?_ ?_
      rotate_left
      · intro w'
        go_simp
        with_reducible rfl
      rotate_left
      · simp only [Act.put, List.setIfInBounds_toArray, List.set_cons_zero, List.set_cons_succ, i64_w, i32_w]
        rfl
      refine pure_ (i := 10) (N := some 26) (v := ?_) (a' := ?_) #[true, true, true, true, true, true, true, true, true, true, true, false, false, false, false, false, false, false, false, false, false, false, false, false] rfl rfl (by kernel_rfl) (fun _ _ _ h => h) (Or.inl ⟨by rfl, ?_⟩) ?_ ?_
      rotate_left
      · intro w'
        go_simp
        with_reducible rfl
      rotate_left
      · simp only [Act.put, List.setIfInBounds_toArray, List.set_cons_zero, List.set_cons_succ, i64_w, i32_w]
        rfl
      refine pure_ (i := 11) (N := some 27) (v := ?_) (a' := ?_) #[true, true, true, true, true, true, true, true, true, true, true, true, false, false, false, false, false, false, false, false, false, false, false, false] rfl rfl (by kernel_rfl) (fun _ _ _ h => h) (Or.inl ⟨by rfl, ?_⟩) ?_ ?_
      rotate_left
      · intro w'
        go_simp
        with_reducible rfl
      rotate_left
      · simp only [Act.put, List.setIfInBounds_toArray, List.set_cons_zero, List.set_cons_succ, i64_w, i32_w]
        rfl
      refine pure_ (i := 12) (N := some 28) (v := ?_) (a' := ?_) #[true, true, true, true, true, true, true, true, true, true, true, true, true, false, false, false, false, false, false, false, false, false, false, false] rfl rfl (by kernel_rfl) (fun _ _ _ h => h) (Or.inl ⟨by rfl, ?_⟩) ?_ ?_
      rotate_left
      · intro w'
        go_simp
        with_reducible rfl
      rotate_left
      · simp only [Act.put, List.setIfInBounds_toArray, List.set_cons_zero, List.set_cons_succ, i64_w, i32_w]
        rfl
      refine pure_ (i := 14) (N := some 30) (v := ?_) (a' := ?_) #[true, true, true, true, true, true, true, true, true, true, true, true, true, false, true, false, false, false, false, false, false, false, false, false] rfl rfl (by kernel_rfl) (fun _ _ _ h => h) (Or.inl ⟨by rfl, ?_⟩) ?_ ?_
      rotate_left
      · intro w'
        go_simp
        with_reducible rfl
      rotate_left
      · simp only [Act.put, List.setIfInBounds_toArray, List.set_cons_zero, List.set_cons_succ, i64_w, i32_w]
        rfl
      refine pure_ (i := 15) (N := some 31) (v := ?_) (a' := ?_) #[true, true, true, true, true, true, true, true, true, true, true, true, true, false, true, true, false, false, false, false, false, false, false, false] rfl rfl (by kernel_rfl) (fun _ _ _ h => h) (Or.inl ⟨by rfl, ?_⟩) ?_ ?_
      rotate_left
      · intro w'
        go_simp
        with_reducible rfl
      rotate_left
      · simp only [Act.put, List.setIfInBounds_toArray, List.set_cons_zero, List.set_cons_succ, i64_w, i32_w]
        rfl
      refine pure_ (i := 16) (N := some 32) (v := ?_) (a' := ?_) #[true, true, true, true, true, true, true, true, true, true, true, true, true, false, true, true, true, false, false, false, false, false, false, false] rfl rfl (by kernel_rfl) (fun _ _ _ h => h) (Or.inl ⟨by rfl, ?_⟩) ?_ ?_
      rotate_left
      · intro w'
        go_simp
        with_reducible rfl
      rotate_left
      · simp only [Act.put, List.setIfInBounds_toArray, List.set_cons_zero, List.set_cons_succ, i64_w, i32_w]
        rfl
      refine pure_ (i := 17) (N := some 33) (v := ?_) (a' := ?_) #[true, true, true, true, true, true, true, true, true, true, true, true, true, false, true, true, true, true, false, false, false, false, false, false] rfl rfl (by kernel_rfl) (fun _ _ _ h => h) (Or.inl ⟨by rfl, ?_⟩) ?_ ?_
      rotate_left
      · intro w'
        go_simp
        with_reducible rfl
      rotate_left
      · simp only [Act.put, List.setIfInBounds_toArray, List.set_cons_zero, List.set_cons_succ, i64_w, i32_w]
        rfl
      refine pure_ (i := 18) (N := some 34) (v := ?_) (a' := ?_) #[true, true, true, true, true, true, true, true, true, true, true, true, true, false, true, true, true, true, true, false, false, false, false, false] rfl rfl (by kernel_rfl) (fun _ _ _ h => h) (Or.inl ⟨by rfl, ?_⟩) ?_ ?_
      rotate_left
      · intro w'
        go_simp
        with_reducible rfl
      rotate_left
      · simp only [Act.put, List.setIfInBounds_toArray, List.set_cons_zero, List.set_cons_succ, i64_w, i32_w]
        rfl
      refine take_ (i := 13) (N := some 29) (v := ?_) (a' := ?_) #[true, true, true, true, true, true, true, true, true, true, true, true, true, true, true, true, true, true, true, false, false, false, false, false] rfl rfl (by kernel_rfl) (fun _ _ _ h => h) (Or.inl ⟨by rfl, ?_⟩) hHeld ?_ ?_
      rotate_left
      · rintro w' ⟨s0, s1, s2, s3, s4, s5, s6, s7, s8⟩
        go_simp
        with_reducible rfl
      rotate_left
      · simp only [Act.put, List.setIfInBounds_toArray, List.set_cons_zero, List.set_cons_succ, i64_w, i32_w]
        rfl
      refine take_ (i := 19) (N := some 35) (v := ?_) (a' := ?_) #[true, true, true, true, true, true, true, true, true, true, true, true, true, true, true, true, true, true, true, true, false, false, false, false] rfl rfl (by kernel_rfl) (fun _ _ _ h => h) (Or.inl ⟨by rfl, ?_⟩) hHeld ?_ ?_
      rotate_left
      · rintro w' ⟨s0, s1, s2, s3, s4, s5, s6, s7, s8⟩
        go_simp
        with_reducible rfl
      rotate_left
      · simp only [Act.put, List.setIfInBounds_toArray, List.set_cons_zero, List.set_cons_succ, i64_w, i32_w]
        rfl
      refine pure_ (i := 20) (N := some 36) (v := ?_) (a' := ?_) #[true, true, true, true, true, true, true, true, true, true, true, true, true, true, true, true, true, true, true, true, true, false, false, false] rfl rfl (by kernel_rfl) (fun _ _ _ h => h) (Or.inl ⟨by rfl, ?_⟩) ?_ ?_
      rotate_left
      · intro w'
        go_simp
        with_reducible rfl
      rotate_left
      · simp only [Act.put, List.setIfInBounds_toArray, List.set_cons_zero, List.set_cons_succ, i64_w, i32_w]
        rfl
      refine last_ (i := 21) (N := none) #[true, true, true, true, true, true, true, true, true, true, true, true, true, true, true, true, true, true, true, true, true, true, false, false] rfl rfl (by kernel_rfl) (by decide) (fun K hK => ?_)
      refine skip_ (w1 := ?_) (by rfl) rfl ?_ ?_
      rotate_left
      · go_simp
        rfl
      refine hK.out _ _ ?_
      clear hK K
      refine pure_ (i := 22) (N := some 37) (v := ?_) (a' := ?_) #[true, true, true, true, true, true, true, true, true, true, true, true, true, true, true, true, true, true, true, true, true, true, true, false] rfl rfl (by kernel_rfl) (fun _ _ _ h => h) (Or.inl ⟨by rfl, ?_⟩) ?_ ?_
      rotate_left
      · intro w'
        go_simp
        with_reducible rfl
      rotate_left
      · simp only [Act.put, List.setIfInBounds_toArray, List.set_cons_zero, List.set_cons_succ, i64_w, i32_w]
        rfl
      refine last_ (i := 23) (N := none) #[true, true, true, true, true, true, true, true, true, true, true, true, true, true, true, true, true, true, true, true, true, true, true, true] rfl rfl (by kernel_rfl) (by decide) (fun K hK => ?_)
      refine skip_ (w1 := ?_) (by rfl) rfl ?_ ?_
      rotate_left
      · go_simp
        rfl
      refine hK.out _ _ ?_
      clear hK K
      refine done_ (by kernel_rfl) ?_
      have HR4 := Aside0.mk HSw.out.1.drew
      have HS4 := Aside0.mk (HSw.out.2.trans HS2.out)
      clear HR HSw HS HS2 hHeld hcs3 hfz d00 d01 d02 d03 d10 d11 d12 d13
      generalize World.drew _ = w4 at *
      go_wp2_with fail
      go_roundw
      case rel => exact ⟨i + 1, _, by go_num, by omega, HR4, HS4⟩
      case measure => simp [intOf]; omega
    · have e0 : i = k := by omega
      subst e0
      have hlt2 : decide (i < i) = false := decide_eq_false (by omega)
      clear hlt
      go_wp2_with fail
      go_end0
      exact ⟨rfl, ys, HR.out, HS.out⟩
end Go.Proofs.Ytfeeahjaeapkoaa.Ext
end

section
namespace Go.Proofs.Ytfeeahjaeapkoaa.Ext
set_option linter.unusedVariables false
set_option linter.unusedSimpArgs false
open Go.RowKit Go.Proofs.YtfeeahjaeapkoaaW.PrintWords Go.Proofs.YtfeeahjaeapkoaaW.PrintLast Go.Proofs.YtfeeahjaeapkoaaW.PrintMore Go.Proofs.Ytfeeahjaeapkoaa.Lib
set_option maxRecDepth 100000 in
set_option maxHeartbeats 1600000 in
theorem rot_calls (fv : Value) (g c n a m b : Nat) (xs : List Q) (w : World) (base : Nat) (ok : Nat → Prop)
    (hrow : kq.R 40 w base ok (.slice (some ⟨g, 0, none⟩) n c) xs) (ham : a < m) (hmb : m < b) (hb : b ≤ n) (hn : n ≤ 2305843009213693952) :
    Calls Try.prog 59 #[.slice (some ⟨g, 0, none⟩) n c, .int .i64 a, .int .i64 m, .int .i64 b, fv] w fun e w' => e = .returned (.tuple #[]) ∧ ∃ ys, RS w w' base ok g n c xs ys ∧ at_ ys = rotF a m b (at_ xs) := by
  have HR := Aside0.mk (RS.refl hrow)
  clear hrow
  go_enter Try.func59, Try.ntmps59
  go_wp2_with fail
  go_loopw [10, 11] (fun v10 v11 w' => ∃ (i j : Nat) (ys : List Q), v10 = .int .i64 i ∧ v11 = .int .i64 j ∧ 0 < i ∧ 0 < j ∧ i ≤ m ∧ m + j ≤ n ∧ Aside0 (RS w w' base ok g n c xs ys) ∧ Aside0 (rotF (m - i) m (m + j) (at_ ys) = rotF a m b (at_ xs))) (fun v10 v11 _ => (intOf v10).toNat + (intOf v11).toNat)
  case atStart => exact ⟨m - a, b - m, xs, by go_num, by go_num, by omega, by omega, by omega, by omega, HR, ⟨by rw [show m - (m - a) = a by omega, show m + (b - m) = b by omega]⟩⟩
  case round =>
    clear HR
    obtain ⟨i, j, ys, rfl, rfl, hi0, hj0, him, hmj, HR, HS⟩ := hrel
    rcases Nat.lt_trichotomy i j with h1 | h1 | h1
    · have t1 : ((i : Int) == (j : Int)) = false := beq_eq_false_iff_ne.2 (by omega)
      have t3 : decide ((j : Int) < (i : Int)) = false := decide_eq_false (by omega)
      have t4 : decide (j < i) = false := decide_eq_false (by omega)
      obtain ⟨x, hx⟩ : ∃ x, x = m - i := ⟨_, rfl⟩
      obtain ⟨z, hz⟩ : ∃ z, z = m + j := ⟨_, rfl⟩
      obtain ⟨y, hy⟩ : ∃ y, y = z - i := ⟨_, rfl⟩
      obtain ⟨k, hk⟩ : ∃ k, k = j - i := ⟨_, rfl⟩
      have Ew1 := Aside0.mk (show ((m : Int) - (i : Int)) = (x : Int) ∧ x < 9223372036854775808 by omega)
      have Ew2 := Aside0.mk (show ((m : Int) + (j : Int)) = (z : Int) ∧ z < 9223372036854775808 by omega)
      have Ew3 := Aside0.mk (show ((z : Int) - (i : Int)) = (y : Int) ∧ y < 9223372036854775808 by omega)
      have Ew4 := Aside0.mk (show ((j : Int) - (i : Int)) = (k : Int) ∧ k < 9223372036854775808 by omega)
      have HC := Aside0.mk (swapr_calls fv g c n x y i ys wr base ok HR.out.row (by omega) (by omega) (by omega) (by omega))
      have HS2 := Aside0.mk (show rotF (m - i) m (m + k) (swapF x y i (at_ ys)) = rotF a m b (at_ xs) by
        rw [← HS.out, hk, hx, hy, hz]
        exact rot_less m i j (at_ ys) him h1 hi0)
      have HK := Aside0.mk (show 0 < k ∧ m + k ≤ n ∧ i + k < i + j by omega)
      have HI := Aside0.mk (show 0 < i ∧ i ≤ m from ⟨hi0, him⟩)
      clear h1 hi0 hj0 him hmj ham hmb hb hn hx hy hz hk
      have w1 : wrap64 ((m : Int) - (i : Int)) = (x : Int) := w64 Ew1.out.1 Ew1.out.2
      have w2 : wrap64 ((m : Int) + (j : Int)) = (z : Int) := w64 Ew2.out.1 Ew2.out.2
      have w3 : wrap64 ((z : Int) - (i : Int)) = (y : Int) := w64 Ew3.out.1 Ew3.out.2
      have w4 : wrap64 ((j : Int) - (i : Int)) = (k : Int) := w64 Ew4.out.1 Ew4.out.2
      go_wp2_with (first | (go_at_call 60; refine HC.out.mono ?_; rintro e w4 ⟨rfl, zs, hr4, hs4⟩; have HR4 := Aside0.mk (HR.out.trans hr4); have HS4 := Aside0.mk hs4; clear hr4 hs4) | fail)
      go_roundw
      case rel => exact ⟨i, k, zs, rfl, by go_num, HI.out.1, HK.out.1, HI.out.2, HK.out.2.1, HR4, ⟨by rw [HS4.out]; exact HS2.out⟩⟩
      case measure => have := HK.out.2.2; simp [intOf]; omega
    · subst h1
      have t1 : ((i : Int) == (i : Int)) = true := beq_iff_eq.2 rfl
      obtain ⟨x, hx⟩ : ∃ x, x = m - i := ⟨_, rfl⟩
      have Ew1 := Aside0.mk (show ((m : Int) - (i : Int)) = (x : Int) ∧ x < 9223372036854775808 by omega)
      have HC := Aside0.mk (swapr_calls fv g c n x m i ys wr base ok HR.out.row (by omega) (by omega) (by omega) (by omega))
      have HS2 := Aside0.mk (show swapF x m i (at_ ys) = rotF a m b (at_ xs) by
        rw [← HS.out, hx]
        exact rot_same m i (at_ ys) him)
      clear hi0 hj0 him hmj ham hmb hb hn hx
      have w1 : wrap64 ((m : Int) - (i : Int)) = (x : Int) := w64 Ew1.out.1 Ew1.out.2
      go_wp2_with (first | (go_at_call 60; refine HC.out.mono ?_; rintro e w4 ⟨rfl, zs, hr4, hs4⟩; have HR4 := Aside0.mk (HR.out.trans hr4); have HS4 := Aside0.mk hs4; clear hr4 hs4) | fail)
      go_end0
      exact ⟨rfl, zs, HR4.out, HS4.out.trans HS2.out⟩
    · have t1 : ((i : Int) == (j : Int)) = false := beq_eq_false_iff_ne.2 (by omega)
      have t3 : (j : Int) < (i : Int) := by omega
      obtain ⟨x, hx⟩ : ∃ x, x = m - i := ⟨_, rfl⟩
      obtain ⟨k, hk⟩ : ∃ k, k = i - j := ⟨_, rfl⟩
      have Ew1 := Aside0.mk (show ((m : Int) - (i : Int)) = (x : Int) ∧ x < 9223372036854775808 by omega)
      have Ew4 := Aside0.mk (show ((i : Int) - (j : Int)) = (k : Int) ∧ k < 9223372036854775808 by omega)
      have HC := Aside0.mk (swapr_calls fv g c n x m j ys wr base ok HR.out.row (by omega) (by omega) (by omega) (by omega))
      have HS2 := Aside0.mk (show rotF (m - k) m (m + j) (swapF x m j (at_ ys)) = rotF a m b (at_ xs) by
        rw [← HS.out, hk, hx]
        exact rot_more m i j (at_ ys) him h1 hj0)
      have HK := Aside0.mk (show 0 < k ∧ k ≤ m ∧ k + j < i + j by omega)
      have HI := Aside0.mk (show 0 < j ∧ m + j ≤ n from ⟨hj0, hmj⟩)
      clear h1 hi0 hj0 him hmj ham hmb hb hn hx hk
      have w1 : wrap64 ((m : Int) - (i : Int)) = (x : Int) := w64 Ew1.out.1 Ew1.out.2
      have w4 : wrap64 ((i : Int) - (j : Int)) = (k : Int) := w64 Ew4.out.1 Ew4.out.2
      go_wp2_with (first | (go_at_call 60; refine HC.out.mono ?_; rintro e w4 ⟨rfl, zs, hr4, hs4⟩; have HR4 := Aside0.mk (HR.out.trans hr4); have HS4 := Aside0.mk hs4; clear hr4 hs4) | fail)
      go_roundw
      case rel => exact ⟨k, j, zs, by go_num, rfl, HK.out.1, HI.out.1, HK.out.2.1, HI.out.2, HR4, ⟨by rw [HS4.out]; exact HS2.out⟩⟩
      case measure => have := HK.out.2.2; simp [intOf]; omega
end Go.Proofs.Ytfeeahjaeapkoaa.Ext
end

section
namespace Go.Proofs.Ytfeeahjaeapkoaa.Ext
set_option linter.unusedVariables false
set_option linter.unusedSimpArgs false
open Go.RowKit Go.Proofs.YtfeeahjaeapkoaaW.PrintWords Go.Proofs.YtfeeahjaeapkoaaW.PrintLast Go.Proofs.YtfeeahjaeapkoaaW.PrintMore Go.Proofs.Ytfeeahjaeapkoaa.Lib
inductive RelA (cf : Q → Q → Int) (w : World) (base : Nat) (ok : Nat → Prop) (g n c : Nat) (xs : List Q) (lo hi p : Nat) (v1 v2 : Value) (w' : World) : Prop
  | mk (i j : Nat) (e1 : v1 = .int .i64 i) (e2 : v2 = .int .i64 j) (h1 : lo ≤ i) (h2 : i ≤ j) (h3 : j ≤ hi) (hl : lo < i → cf (at_ xs (i - 1)) (at_ xs p) < 0) (hr : j < hi → ¬ cf (at_ xs j) (at_ xs p) < 0) (hrs : RS w w' base ok g n c xs xs)
inductive RelA2 (cf : Q → Q → Int) (w : World) (base : Nat) (ok : Nat → Prop) (g n c : Nat) (xs : List Q) (lo hi p : Nat) (v1 v2 : Value) (w' : World) : Prop
  | mk (i j : Nat) (e1 : v1 = .int .i64 i) (e2 : v2 = .int .i64 j) (h1 : lo ≤ i) (h2 : i ≤ j) (h3 : j ≤ hi) (hl : lo < i → ¬ cf (at_ xs p) (at_ xs (i - 1)) < 0) (hr : j < hi → cf (at_ xs p) (at_ xs j) < 0) (hrs : RS w w' base ok g n c xs xs)
inductive RelA3 (cf : Q → Q → Int) (w : World) (base : Nat) (ok : Nat → Prop) (g n c : Nat) (xs : List Q) (lo hi p : Nat) (v1 v2 : Value) (w' : World) : Prop
  | mk (i j : Nat) (e1 : v1 = .int .i64 i) (e2 : v2 = .int .i64 j) (h1 : lo ≤ i) (h2 : i ≤ j) (h3 : j ≤ hi) (hl : lo < i → ¬ cf (at_ xs (p - (i - 1))) (at_ xs (i - 1)) < 0) (hr : j < hi → cf (at_ xs (p - j)) (at_ xs j) < 0) (hrs : RS w w' base ok g n c xs xs)
inductive RelB (w : World) (base : Nat) (ok : Nat → Prop) (g n c : Nat) (xs : List Q) (a hi : Nat) (v : Value) (w' : World) : Prop
  | mk (k : Nat) (ys : List Q) (e : v = .int .i64 k) (h1 : a ≤ k) (h2 : k ≤ hi) (hrs : RS w w' base ok g n c xs ys) (hy : at_ ys = rotF a (a + 1) (k + 1) (at_ xs))
inductive RelB2 (w : World) (base : Nat) (ok : Nat → Prop) (g n c : Nat) (xs : List Q) (lo m : Nat) (v : Value) (w' : World) : Prop
  | mk (k : Nat) (ys : List Q) (e : v = .int .i64 k) (h1 : lo ≤ k) (h2 : k ≤ m) (hrs : RS w w' base ok g n c xs ys) (hy : at_ ys = rotF k m (m + 1) (at_ xs))
set_option maxRecDepth 100000 in
set_option maxHeartbeats 3200000 in
theorem sym1_calls (cf : Q → Q → Int) (hp : Pre cf) (f : FuncId) (fn : Func) (hf : Try.prog.funcs[f]? = some fn) (hname : (fn.name == "runtime.NumGoroutine") = false) (hbody : fn.body.isSome = true) (g c n : Nat) (base : Nat) (ok : Nat → Prop) (hn : n ≤ 1152921504606846976) (a m b : Nat) (xs : List Q) (w : World)
    (hrow : kq.R 40 w base ok (.slice (some ⟨g, 0, none⟩) n c) xs) (hcmp : CmpOk f cf w g xs) (h1 : SrtOn cf (at_ xs) a m) (h2 : SrtOn cf (at_ xs) m b) (hm : m = a + 1) (hmb : m < b) (hb : b ≤ n) :
    Calls Try.prog 58 #[.slice (some ⟨g, 0, none⟩) n c, .int .i64 a, .int .i64 m, .int .i64 b, .func (.func f) #[] #[]] w fun e w' => e = .returned (.tuple #[]) ∧ ∃ ys, RS w w' base ok g n c xs ys ∧ In a b (at_ xs) (at_ ys) ∧ SrtOn cf (at_ ys) a b := by
  have HF := Aside0.mk hf
  have HNm := Aside0.mk hname
  have HBd := Aside0.mk hbody
  have HCmp := Aside0.mk hcmp
  have HP := Aside0.mk hp
  have H1 := Aside0.mk h1
  have H2 := Aside0.mk h2
  have HR := Aside0.mk (RS.refl hrow)
  clear hf hname hbody hcmp hrow hp h1 h2
  have t1 : (m : Int) - (a : Int) = 1 := by omega
  have HM := Aside0.mk hm
  have HMa := Aside0.mk (show a < m ∧ a < n by omega)
  clear hm
  go_enter Try.func58, Try.ntmps58
  go_wp2_with fail
  go_loopw [10, 11] (fun v10 v11 w' => RelA cf w base ok g n c xs m b a v10 v11 w') (fun v10 v11 _ => (intOf v11).toNat - (intOf v10).toNat)
  case atStart => exact .mk m b rfl rfl (Nat.le_refl _) (by omega) (Nat.le_refl _) (fun h => absurd h (Nat.lt_irrefl _)) (fun h => absurd h (Nat.lt_irrefl _)) HR.out
  case round =>
    clear HR
    obtain ⟨i, j, rfl, rfl, hi, hij, hj, hI, hJ, hR⟩ := hrel
    have HI := Aside0.mk hI
    have HJ := Aside0.mk hJ
    have HR := Aside0.mk hR
    clear hI hJ hR
    by_cases hlt : i < j
    · obtain ⟨h, hh⟩ : ∃ h, h = (i + j) / 2 := ⟨_, rfl⟩
      have HX := Aside0.mk (show i ≤ h ∧ h < j ∧ (i : Int) < (j : Int) ∧ ((i : Int) + (j : Int)) / 2 = (h : Int) ∧ (h : Int) < (n : Int) ∧ (a : Int) < (n : Int) ∧ h < 9223372036854775808 by have := HMa.out; omega)
      have hal := HMa.out
      obtain ⟨d0, d1, d2, d3⟩ := kq_get HR.out.row h (by omega)
      simp only [encSL] at d1 d2
      obtain ⟨c0, c1, c2, c3⟩ := kq_get HR.out.row a (by omega)
      simp only [encSL] at c1 c2
      have hm1 : at_ xs h ∈ xs := (by have hl := HR.out.len; show xs.getD h zQ ∈ xs; rw [List.getD_eq_getElem?_getD, List.getElem?_eq_getElem (by omega)]; exact List.getElem_mem _)
      have hm0 : at_ xs a ∈ xs := (by have hl := HR.out.len; show xs.getD a zQ ∈ xs; rw [List.getD_eq_getElem?_getD, List.getElem?_eq_getElem (by omega)]; exact List.getElem_mem _)
      have HC := Aside0.mk (fun w' (h : w.grownBy w' (some g)) => HCmp.out w' h _ hm1 _ hm0)
      have HPP := Aside0.mk (show at_ xs h = xs.getD h zQ ∧ at_ xs a = xs.getD a zQ from ⟨rfl, rfl⟩)
      generalize hp1 : xs.getD h zQ = p at *
      generalize hq1 : xs.getD a zQ = q at *
      have HPq := Aside0.mk (show at_ xs h = p ∧ at_ xs a = q from ⟨hp1, hq1⟩)
      rw [HPq.out.1, HPq.out.2] at HC
      clear hp1 hq1 hm1 hm0 HPP hlt hh hal
      have hij2 := HX.out.2.2.1
      have hhi := HX.out.2.2.2.1
      have hhn := HX.out.2.2.2.2.1
      have han := HX.out.2.2.2.2.2.1
      have hwu : IntKind.u64.wrap ((i : Int) + (j : Int)) = (i : Int) + (j : Int) := wraps_u64 _ (by omega) (by omega)
      have hwh : wrap64 (h : Int) = (h : Int) := w64 rfl HX.out.2.2.2.2.2.2
      go_wp2_with fail
      refine start_ (n := 11) (S := fun w' => w'.cell? ⟨g, h * 4, none⟩ = some (.int .i64 p.1) ∧ w'.cell? ⟨g, h * 4 + 1, none⟩ = some (.slice p.2.1.1 p.2.1.2.1 p.2.1.2.2) ∧ w'.cell? ⟨g, h * 4 + 2, none⟩ = some (.slice p.2.2.1.1 p.2.2.1.2.1 p.2.2.1.2.2) ∧ w'.cell? ⟨g, h * 4 + 3, none⟩ = some (.int .u64 p.2.2.2) ∧ w'.cell? ⟨g, a * 4, none⟩ = some (.int .i64 q.1) ∧ w'.cell? ⟨g, a * 4 + 1, none⟩ = some (.slice q.2.1.1 q.2.1.2.1 q.2.1.2.2) ∧ w'.cell? ⟨g, a * 4 + 2, none⟩ = some (.slice q.2.2.1.1 q.2.2.1.2.1 q.2.2.1.2.2) ∧ w'.cell? ⟨g, a * 4 + 3, none⟩ = some (.int .u64 q.2.2.2)) (ds := []) #[false, false, false, false, false, false, false, false, false, false, false] (by kernel_rfl) rfl rfl ⟨d0, d1, d2, d3, c0, c1, c2, c3⟩ (fun hHeld => ?_)
      refine pure_ (i := 0) (N := some 40) (v := ?_) (a' := ?_) #[true, false, false, false, false, false, false, false, false, false, false] rfl rfl (by kernel_rfl) (fun _ _ _ h => h) (Or.inl ⟨by rfl, ?_⟩) ?_ ?_
      rotate_left
      · intro w'
        go_simp
        with_reducible rfl
      rotate_left
      · simp only [Act.put, List.setIfInBounds_toArray, List.set_cons_zero, List.set_cons_succ, i64_w, i32_w]
        rfl
      refine pure_ (i := 1) (N := some 41) (v := ?_) (a' := ?_) #[true, true, false, false, false, false, false, false, false, false, false] rfl rfl (by kernel_rfl) (fun _ _ _ h => h) (Or.inl ⟨by rfl, ?_⟩) ?_ ?_
      rotate_left
      · intro w'
        go_simp
        with_reducible rfl
      rotate_left
      · simp only [Act.put, List.setIfInBounds_toArray, List.set_cons_zero, List.set_cons_succ, i64_w, i32_w]
        rfl
      refine pure_ (i := 2) (N := some 42) (v := ?_) (a' := ?_) #[true, true, true, false, false, false, false, false, false, false, false] rfl rfl (by kernel_rfl) (fun _ _ _ h => h) (Or.inl ⟨by rfl, ?_⟩) ?_ ?_
      rotate_left
      · intro w'
        go_simp
        with_reducible rfl
      rotate_left
      · simp only [Act.put, List.setIfInBounds_toArray, List.set_cons_zero, List.set_cons_succ, i64_w, i32_w]
        rfl
      refine pure_ (i := 3) (N := some 43) (v := ?_) (a' := ?_) #[true, true, true, true, false, false, false, false, false, false, false] rfl rfl (by kernel_rfl) (fun _ _ _ h => h) (Or.inl ⟨by rfl, ?_⟩) ?_ ?_
      rotate_left
      · intro w'
        go_simp
        with_reducible rfl
      rotate_left
      · simp only [Act.put, List.setIfInBounds_toArray, List.set_cons_zero, List.set_cons_succ, i64_w, i32_w]
        rfl
      refine pure_ (i := 5) (N := some 45) (v := ?_) (a' := ?_) #[true, true, true, true, false, true, false, false, false, false, false] rfl rfl (by kernel_rfl) (fun _ _ _ h => h) (Or.inl ⟨by rfl, ?_⟩) ?_ ?_
      rotate_left
      · intro w'
        go_simp
        with_reducible rfl
      rotate_left
      · simp only [Act.put, List.setIfInBounds_toArray, List.set_cons_zero, List.set_cons_succ, i64_w, i32_w]
        rfl
      refine pure_ (i := 6) (N := some 46) (v := ?_) (a' := ?_) #[true, true, true, true, false, true, true, false, false, false, false] rfl rfl (by kernel_rfl) (fun _ _ _ h => h) (Or.inl ⟨by rfl, ?_⟩) ?_ ?_
      rotate_left
      · intro w'
        go_simp
        with_reducible rfl
      rotate_left
      · simp only [Act.put, List.setIfInBounds_toArray, List.set_cons_zero, List.set_cons_succ, i64_w, i32_w]
        rfl
      refine pure_ (i := 7) (N := some 47) (v := ?_) (a' := ?_) #[true, true, true, true, false, true, true, true, false, false, false] rfl rfl (by kernel_rfl) (fun _ _ _ h => h) (Or.inl ⟨by rfl, ?_⟩) ?_ ?_
      rotate_left
      · intro w'
        go_simp
        with_reducible rfl
      rotate_left
      · simp only [Act.put, List.setIfInBounds_toArray, List.set_cons_zero, List.set_cons_succ, i64_w, i32_w]
        rfl
      refine take_ (i := 4) (N := some 44) (v := ?_) (a' := ?_) #[true, true, true, true, true, true, true, true, false, false, false] rfl rfl (by kernel_rfl) (fun _ _ _ h => h) (Or.inl ⟨by rfl, ?_⟩) hHeld ?_ ?_
      rotate_left
      · rintro w' ⟨s0, s1, s2, s3, s4, s5, s6, s7⟩
        go_simp
        with_reducible rfl
      rotate_left
      · simp only [Act.put, List.setIfInBounds_toArray, List.set_cons_zero, List.set_cons_succ, i64_w, i32_w]
        rfl
      refine take_ (i := 8) (N := some 48) (v := ?_) (a' := ?_) #[true, true, true, true, true, true, true, true, true, false, false] rfl rfl (by kernel_rfl) (fun _ _ _ h => h) (Or.inl ⟨by rfl, ?_⟩) hHeld ?_ ?_
      rotate_left
      · rintro w' ⟨s0, s1, s2, s3, s4, s5, s6, s7⟩
        go_simp
        with_reducible rfl
      rotate_left
      · simp only [Act.put, List.setIfInBounds_toArray, List.set_cons_zero, List.set_cons_succ, i64_w, i32_w]
        rfl
      refine one_ (i := 9) (N := some 49) #[true, true, true, true, true, true, true, true, true, true, false] rfl rfl (by kernel_rfl) (by decide) (fun K hK => ?_)
      refine goesv_ HF.out HNm.out HBd.out (#[.agg #[.int .i64 p.1, .slice p.2.1.1 p.2.1.2.1 p.2.1.2.2, .slice p.2.2.1.1 p.2.2.1.2.1 p.2.2.1.2.2, .int .u64 p.2.2.2], .agg #[.int .i64 q.1, .slice q.2.1.1 q.2.1.2.1 q.2.1.2.2, .slice q.2.2.1.1 q.2.2.1.2.1 q.2.2.1.2.2, .int .u64 q.2.2.2]]) (by rfl) rfl rfl rfl (by simp only [List.map_toArray, List.map_cons, List.map_nil]; rfl) ?_
      with_reducible refine (HC.out _ (grown_drew HR.out.grown)).mono ?_
      rintro e w3 ⟨rfl, hb⟩
      refine ⟨_, rfl, ?_⟩
      have hbx := Aside0.mk (below_then (below_drew (Below.refl _ _)) (Nat.le_refl _) hb)
      have HR3 := Aside0.mk (HR.out.below hbx.out)
      clear hb
      refine hK.out _ _ ⟨(pw_cell_below hbx.out d0), (pw_cell_below hbx.out d1), (pw_cell_below hbx.out d2), (pw_cell_below hbx.out d3), (pw_cell_below hbx.out c0), (pw_cell_below hbx.out c1), (pw_cell_below hbx.out c2), (pw_cell_below hbx.out c3)⟩ (fun hHeld => ?_)
      clear hK K
      refine norm_ (a' := ?_) ?_ ?_
      rotate_left
      · show Act.put _ (some 49) _ = _
        simp only [Act.put, List.setIfInBounds_toArray, List.set_cons_zero, List.set_cons_succ, i64_w, i32_w]
        rfl
      refine pure_ (i := 10) (N := some 50) (v := ?_) (a' := ?_) #[true, true, true, true, true, true, true, true, true, true, true] rfl rfl (by kernel_rfl) (fun _ _ _ h => h) (Or.inl ⟨by rfl, ?_⟩) ?_ ?_
      rotate_left
      · intro w'
        go_simp
        with_reducible rfl
      rotate_left
      · simp only [Act.put, List.setIfInBounds_toArray, List.set_cons_zero, List.set_cons_succ, i64_w, i32_w]
        rfl
      refine done_ (by kernel_rfl) ?_
      clear hHeld d0 d1 d2 d3 c0 c1 c2 c3 HR HC hbx
      by_cases hc : cf p q < 0
      · have hcd : decide (cf p q < 0) = true := decide_eq_true hc
        have HCq := Aside0.mk hc
        clear hc
        rw [hcd]
        go_wp2_with fail
        go_roundw
        case rel => exact .mk (h + 1) j (by clear hwu hwh; go_num) rfl (by have := HX.out; clear hwu hwh; omega) (by have := HX.out; clear hwu hwh; omega) hj (fun _ => by rw [Nat.add_sub_cancel, HPq.out.1, HPq.out.2]; exact HCq.out) (fun h => Int.not_lt.2 (HJ.out h)) HR3.out
        case measure => have := HX.out; clear hwu hwh; simp [intOf]; omega
      · have hcd : decide (cf p q < 0) = false := decide_eq_false hc
        have HCq := Aside0.mk hc
        clear hc
        rw [hcd]
        go_wp2_with fail
        go_roundw
        case rel => exact .mk i h rfl rfl hi (by have := HX.out; clear hwu hwh; omega) (by have := HX.out; clear hwu hwh; omega) HI.out (fun _ => by rw [HPq.out.1, HPq.out.2]; exact HCq.out) HR3.out
        case measure => have := HX.out; clear hwu hwh; simp [intOf]; omega
    · obtain rfl : i = j := by omega
      have t3 : decide (i < i) = false := decide_eq_false (by omega)
      clear hlt
      have HIb := Aside0.mk (show m ≤ i ∧ i ≤ b ∧ m = a + 1 from ⟨hi, hj, HM.out⟩)
      have hw1 : wrap64 ((i : Int) - 1) = ((i - 1 : Nat) : Int) := w64 (by have := HM.out; omega) (by have := HM.out; omega)
      go_wp2_with fail
      go_loopw [13] (fun v13 w' => RelB w base ok g n c xs a (i - 1) v13 w') (fun v13 _ => i - (intOf v13).toNat)
      case atStart => exact .mk a xs rfl (Nat.le_refl _) (by have := HM.out; clear hw1; omega) HR.out (rot_none2 a (a + 1) _).symm
      case round =>
        clear HR
        obtain ⟨k, ys, rfl, hak, hki, hR, hS⟩ := hrel
        have HR := Aside0.mk hR
        have HS := Aside0.mk hS
        clear hR hS
        by_cases hk : k < i - 1
        · obtain ⟨y, hy⟩ : ∃ y, y = k + 1 := ⟨_, rfl⟩
          have HKb := Aside0.mk (show y = k + 1 ∧ y < i ∧ (k : Int) < (i : Int) - 1 ∧ (k : Int) + 1 = (y : Int) ∧ y < 9223372036854775808 ∧ (k : Int) < (n : Int) ∧ (y : Int) < (n : Int) ∧ ¬ k = y ∧ ¬ y = k by have := HM.out; clear hw1; omega)
          obtain ⟨d0, d1, d2, d3⟩ := kq_get HR.out.row k (by omega)
          simp only [encSL] at d1 d2
          obtain ⟨c0, c1, c2, c3⟩ := kq_get HR.out.row y (by omega)
          simp only [encSL] at c1 c2
          have HSw := Aside0.mk (RS.swap2 HR.out k y (by omega) (by omega) (by omega) _ _ rfl rfl)
          have HS2 := Aside0.mk (show swapF k y 1 (at_ ys) = rotF a (a + 1) (k + 1 + 1) (at_ xs) by rw [HS.out, hy]; exact rot_right a k _ hak)
          obtain ⟨cs3, hcs3⟩ := Kd.R_typed HR.out.row g rfl
          have hfz : ∀ o, wr.frozen? ⟨g, o, none⟩ = false := fun o => blk_frozen hcs3 o
          generalize hp1 : ys.getD k zQ = p at *
          generalize hq1 : ys.getD y zQ = q at *
          clear hp1 hq1
          have hkn := HKb.out.2.2.2.2.2.1
          have hyn := HKb.out.2.2.2.2.2.2.1
          have hxy := HKb.out.2.2.2.2.2.2.2.1
          have hyx := HKb.out.2.2.2.2.2.2.2.2
          have hki2 := HKb.out.2.2.1
          have hki3 : decide ((k : Int) < (i : Int) - 1) = true := decide_eq_true hki2
          have HAk := Aside0.mk hak
          clear hy hk hak hki
          have hwy : wrap64 ((k : Int) + 1) = (y : Int) := w64 HKb.out.2.2.2.1 HKb.out.2.2.2.2.1
          go_wp2_with fail
          refine start_ (n := 18) (S := fun w' => w'.cell? ⟨g, y * 4, none⟩ = some (.int .i64 q.1) ∧ w'.cell? ⟨g, y * 4 + 1, none⟩ = some (.slice q.2.1.1 q.2.1.2.1 q.2.1.2.2) ∧ w'.cell? ⟨g, y * 4 + 2, none⟩ = some (.slice q.2.2.1.1 q.2.2.1.2.1 q.2.2.1.2.2) ∧ w'.cell? ⟨g, y * 4 + 3, none⟩ = some (.int .u64 q.2.2.2) ∧ w'.cell? ⟨g, k * 4, none⟩ = some (.int .i64 p.1) ∧ w'.cell? ⟨g, k * 4 + 1, none⟩ = some (.slice p.2.1.1 p.2.1.2.1 p.2.1.2.2) ∧ w'.cell? ⟨g, k * 4 + 2, none⟩ = some (.slice p.2.2.1.1 p.2.2.1.2.1 p.2.2.1.2.2) ∧ w'.cell? ⟨g, k * 4 + 3, none⟩ = some (.int .u64 p.2.2.2) ∧ ∀ o, w'.frozen? ⟨g, o, none⟩ = false) (ds := [15, 17]) #[false, false, false, false, false, false, false, false, false, false, false, false, false, false, false, false, false, false] (by kernel_rfl) rfl rfl ⟨c0, c1, c2, c3, d0, d1, d2, d3, hfz⟩ (fun hHeld => ?_)
          refine pure_ (i := 0) (N := some 61) (v := ?_) (a' := ?_) #[true, false, false, false, false, false, false, false, false, false, false, false, false, false, false, false, false, false] rfl rfl (by kernel_rfl) (fun _ _ _ h => h) (Or.inl ⟨by rfl, ?_⟩) ?_ ?_
          rotate_left
          · intro w'
            go_simp
            with_reducible rfl
          rotate_left
          · simp only [Act.put, List.setIfInBounds_toArray, List.set_cons_zero, List.set_cons_succ, i64_w, i32_w]
            rfl
          refine pure_ (i := 1) (N := some 62) (v := ?_) (a' := ?_) #[true, true, false, false, false, false, false, false, false, false, false, false, false, false, false, false, false, false] rfl rfl (by kernel_rfl) (fun _ _ _ h => h) (Or.inl ⟨by rfl, ?_⟩) ?_ ?_
          rotate_left
          · intro w'
            go_simp
            with_reducible rfl
          rotate_left
          · simp only [Act.put, List.setIfInBounds_toArray, List.set_cons_zero, List.set_cons_succ, i64_w, i32_w]
            rfl
          refine pure_ (i := 2) (N := some 63) (v := ?_) (a' := ?_) #[true, true, true, false, false, false, false, false, false, false, false, false, false, false, false, false, false, false] rfl rfl (by kernel_rfl) (fun _ _ _ h => h) (Or.inl ⟨by rfl, ?_⟩) ?_ ?_
          rotate_left
          · intro w'
            go_simp
            with_reducible rfl
          rotate_left
          · simp only [Act.put, List.setIfInBounds_toArray, List.set_cons_zero, List.set_cons_succ, i64_w, i32_w]
            rfl
          refine pure_ (i := 3) (N := some 64) (v := ?_) (a' := ?_) #[true, true, true, true, false, false, false, false, false, false, false, false, false, false, false, false, false, false] rfl rfl (by kernel_rfl) (fun _ _ _ h => h) (Or.inl ⟨by rfl, ?_⟩) ?_ ?_
          rotate_left
          · intro w'
            go_simp
            with_reducible rfl
          rotate_left
          · simp only [Act.put, List.setIfInBounds_toArray, List.set_cons_zero, List.set_cons_succ, i64_w, i32_w]
            rfl
          refine pure_ (i := 4) (N := some 65) (v := ?_) (a' := ?_) #[true, true, true, true, true, false, false, false, false, false, false, false, false, false, false, false, false, false] rfl rfl (by kernel_rfl) (fun _ _ _ h => h) (Or.inl ⟨by rfl, ?_⟩) ?_ ?_
          rotate_left
          · intro w'
            go_simp
            with_reducible rfl
          rotate_left
          · simp only [Act.put, List.setIfInBounds_toArray, List.set_cons_zero, List.set_cons_succ, i64_w, i32_w]
            rfl
          refine pure_ (i := 5) (N := some 66) (v := ?_) (a' := ?_) #[true, true, true, true, true, true, false, false, false, false, false, false, false, false, false, false, false, false] rfl rfl (by kernel_rfl) (fun _ _ _ h => h) (Or.inl ⟨by rfl, ?_⟩) ?_ ?_
          rotate_left
          · intro w'
            go_simp
            with_reducible rfl
          rotate_left
          · simp only [Act.put, List.setIfInBounds_toArray, List.set_cons_zero, List.set_cons_succ, i64_w, i32_w]
            rfl
          refine pure_ (i := 6) (N := some 67) (v := ?_) (a' := ?_) #[true, true, true, true, true, true, true, false, false, false, false, false, false, false, false, false, false, false] rfl rfl (by kernel_rfl) (fun _ _ _ h => h) (Or.inl ⟨by rfl, ?_⟩) ?_ ?_
          rotate_left
          · intro w'
            go_simp
            with_reducible rfl
          rotate_left
          · simp only [Act.put, List.setIfInBounds_toArray, List.set_cons_zero, List.set_cons_succ, i64_w, i32_w]
            rfl
          refine pure_ (i := 7) (N := some 68) (v := ?_) (a' := ?_) #[true, true, true, true, true, true, true, true, false, false, false, false, false, false, false, false, false, false] rfl rfl (by kernel_rfl) (fun _ _ _ h => h) (Or.inl ⟨by rfl, ?_⟩) ?_ ?_
          rotate_left
          · intro w'
            go_simp
            with_reducible rfl
          rotate_left
          · simp only [Act.put, List.setIfInBounds_toArray, List.set_cons_zero, List.set_cons_succ, i64_w, i32_w]
            rfl
          refine pure_ (i := 8) (N := some 69) (v := ?_) (a' := ?_) #[true, true, true, true, true, true, true, true, true, false, false, false, false, false, false, false, false, false] rfl rfl (by kernel_rfl) (fun _ _ _ h => h) (Or.inl ⟨by rfl, ?_⟩) ?_ ?_
          rotate_left
          · intro w'
            go_simp
            with_reducible rfl
          rotate_left
          · simp only [Act.put, List.setIfInBounds_toArray, List.set_cons_zero, List.set_cons_succ, i64_w, i32_w]
            rfl
          refine pure_ (i := 10) (N := some 71) (v := ?_) (a' := ?_) #[true, true, true, true, true, true, true, true, true, false, true, false, false, false, false, false, false, false] rfl rfl (by kernel_rfl) (fun _ _ _ h => h) (Or.inl ⟨by rfl, ?_⟩) ?_ ?_
          rotate_left
          · intro w'
            go_simp
            with_reducible rfl
          rotate_left
          · simp only [Act.put, List.setIfInBounds_toArray, List.set_cons_zero, List.set_cons_succ, i64_w, i32_w]
            rfl
          refine pure_ (i := 11) (N := some 72) (v := ?_) (a' := ?_) #[true, true, true, true, true, true, true, true, true, false, true, true, false, false, false, false, false, false] rfl rfl (by kernel_rfl) (fun _ _ _ h => h) (Or.inl ⟨by rfl, ?_⟩) ?_ ?_
          rotate_left
          · intro w'
            go_simp
            with_reducible rfl
          rotate_left
          · simp only [Act.put, List.setIfInBounds_toArray, List.set_cons_zero, List.set_cons_succ, i64_w, i32_w]
            rfl
          refine pure_ (i := 12) (N := some 73) (v := ?_) (a' := ?_) #[true, true, true, true, true, true, true, true, true, false, true, true, true, false, false, false, false, false] rfl rfl (by kernel_rfl) (fun _ _ _ h => h) (Or.inl ⟨by rfl, ?_⟩) ?_ ?_
          rotate_left
          · intro w'
            go_simp
            with_reducible rfl
          rotate_left
          · simp only [Act.put, List.setIfInBounds_toArray, List.set_cons_zero, List.set_cons_succ, i64_w, i32_w]
            rfl
          refine take_ (i := 9) (N := some 70) (v := ?_) (a' := ?_) #[true, true, true, true, true, true, true, true, true, true, true, true, true, false, false, false, false, false] rfl rfl (by kernel_rfl) (fun _ _ _ h => h) (Or.inl ⟨by rfl, ?_⟩) hHeld ?_ ?_
          rotate_left
          · rintro w' ⟨s0, s1, s2, s3, s4, s5, s6, s7, s8⟩
            go_simp
            with_reducible rfl
          rotate_left
          · simp only [Act.put, List.setIfInBounds_toArray, List.set_cons_zero, List.set_cons_succ, i64_w, i32_w]
            rfl
          refine take_ (i := 13) (N := some 74) (v := ?_) (a' := ?_) #[true, true, true, true, true, true, true, true, true, true, true, true, true, true, false, false, false, false] rfl rfl (by kernel_rfl) (fun _ _ _ h => h) (Or.inl ⟨by rfl, ?_⟩) hHeld ?_ ?_
          rotate_left
          · rintro w' ⟨s0, s1, s2, s3, s4, s5, s6, s7, s8⟩
            go_simp
            with_reducible rfl
          rotate_left
          · simp only [Act.put, List.setIfInBounds_toArray, List.set_cons_zero, List.set_cons_succ, i64_w, i32_w]
            rfl
          refine pure_ (i := 14) (N := some 75) (v := ?_) (a' := ?_) #[true, true, true, true, true, true, true, true, true, true, true, true, true, true, true, false, false, false] rfl rfl (by kernel_rfl) (fun _ _ _ h => h) (Or.inl ⟨by rfl, ?_⟩) ?_ ?_
          rotate_left
          · intro w'
            go_simp
            with_reducible rfl
          rotate_left
          · simp only [Act.put, List.setIfInBounds_toArray, List.set_cons_zero, List.set_cons_succ, i64_w, i32_w]
            rfl
          refine last_ (i := 15) (N := none) #[true, true, true, true, true, true, true, true, true, true, true, true, true, true, true, true, false, false] rfl rfl (by kernel_rfl) (by decide) (fun K hK => ?_)
          refine skip_ (w1 := ?_) (by rfl) rfl ?_ ?_
          rotate_left
          · go_simp
            rfl
          refine hK.out _ _ ?_
          clear hK K
          refine pure_ (i := 16) (N := some 76) (v := ?_) (a' := ?_) #[true, true, true, true, true, true, true, true, true, true, true, true, true, true, true, true, true, false] rfl rfl (by kernel_rfl) (fun _ _ _ h => h) (Or.inl ⟨by rfl, ?_⟩) ?_ ?_
          rotate_left
          · intro w'
            go_simp
            with_reducible rfl
          rotate_left
          · simp only [Act.put, List.setIfInBounds_toArray, List.set_cons_zero, List.set_cons_succ, i64_w, i32_w]
            rfl
          refine last_ (i := 17) (N := none) #[true, true, true, true, true, true, true, true, true, true, true, true, true, true, true, true, true, true] rfl rfl (by kernel_rfl) (by decide) (fun K hK => ?_)
          refine skip_ (w1 := ?_) (by rfl) rfl ?_ ?_
          rotate_left
          · go_simp
            rfl
          refine hK.out _ _ ?_
          clear hK K
          refine done_ (by kernel_rfl) ?_
          have HR4 := Aside0.mk HSw.out.1.drew
          have HS4 := Aside0.mk (HSw.out.2.trans HS2.out)
          clear HR HSw HS HS2 hHeld hcs3 hfz d0 d1 d2 d3 c0 c1 c2 c3
          generalize World.drew _ = w4 at *
          go_wp2_with fail
          go_roundw
          case rel => exact .mk (k + 1) _ (by have := HKb.out; first | (rw [hwy]; clear hwy hw1; go_num) | (clear hwy hw1; go_num)) (by have := HKb.out; have := HAk.out; clear hwy hw1; omega) (by have := HKb.out; clear hwy hw1; omega) HR4.out HS4.out
          case measure => have := HKb.out; first | (rw [hwy]; clear hwy hw1; simp [intOf]; omega) | (clear hwy hw1; simp [intOf]; omega)
        · have e0 : k + 1 = i := by have := HM.out; clear hw1; omega
          have hk2 : decide ((k : Int) < (i : Int) - 1) = false := decide_eq_false (by omega)
          have hk3 : decide (k < i - 1) = false := decide_eq_false hk
          have HE := Aside0.mk e0
          clear hk e0
          go_wp2_with fail
          (try simp only [Exit.inBlock, Exit.then]); refine bodyPost_ret (results_none rfl _ _ _) rfl ?_
          rw [HE.out] at HS
          refine ⟨rfl, ys, HR.out, ?_, ?_⟩
          · rw [HS.out]; have := HM.out; clear hw1; exact (rot_in (by omega) (by omega)).wide (Nat.le_refl _) (by omega)
          · rw [HS.out, ← HM.out]; have := HM.out; clear hw1; exact sym_leaf HP.out H1.out H2.out (Nat.le_refl _) (by omega) (by omega) (by omega) (fun h => absurd h (Nat.lt_irrefl _)) (fun _ h => HP.out.asym _ _ (HI.out h)) (fun _ h => by rw [show m - 1 = a by have := HM.out; omega]; exact Int.not_lt.2 (HJ.out h)) (fun h => absurd h (Nat.lt_irrefl _))
end Go.Proofs.Ytfeeahjaeapkoaa.Ext
end

section
namespace Go.Proofs.Ytfeeahjaeapkoaa.Ext
set_option linter.unusedVariables false
set_option linter.unusedSimpArgs false
open Go.RowKit Go.Proofs.YtfeeahjaeapkoaaW.PrintWords Go.Proofs.YtfeeahjaeapkoaaW.PrintLast Go.Proofs.YtfeeahjaeapkoaaW.PrintMore Go.Proofs.Ytfeeahjaeapkoaa.Lib
set_option maxRecDepth 100000 in
set_option maxHeartbeats 3200000 in
theorem sym2_calls (cf : Q → Q → Int) (hp : Pre cf) (f : FuncId) (fn : Func) (hf : Try.prog.funcs[f]? = some fn) (hname : (fn.name == "runtime.NumGoroutine") = false) (hbody : fn.body.isSome = true) (g c n : Nat) (base : Nat) (ok : Nat → Prop) (hn : n ≤ 1152921504606846976) (a m b : Nat) (xs : List Q) (w : World)
    (hrow : kq.R 40 w base ok (.slice (some ⟨g, 0, none⟩) n c) xs) (hcmp : CmpOk f cf w g xs) (h1 : SrtOn cf (at_ xs) a m) (h2 : SrtOn cf (at_ xs) m b) (hma : a + 1 < m) (hbm : b = m + 1) (hb : b ≤ n) :
    Calls Try.prog 58 #[.slice (some ⟨g, 0, none⟩) n c, .int .i64 a, .int .i64 m, .int .i64 b, .func (.func f) #[] #[]] w fun e w' => e = .returned (.tuple #[]) ∧ ∃ ys, RS w w' base ok g n c xs ys ∧ In a b (at_ xs) (at_ ys) ∧ SrtOn cf (at_ ys) a b := by
  have HF := Aside0.mk hf
  have HNm := Aside0.mk hname
  have HBd := Aside0.mk hbody
  have HCmp := Aside0.mk hcmp
  have HP := Aside0.mk hp
  have H1 := Aside0.mk h1
  have H2 := Aside0.mk h2
  have HR := Aside0.mk (RS.refl hrow)
  clear hf hname hbody hcmp hrow hp h1 h2
  have t1 : (((m : Int) - (a : Int)) == 1) = false := beq_eq_false_iff_ne.2 (by omega)
  have t2 : (b : Int) - (m : Int) = 1 := by omega
  have HM := Aside0.mk hbm
  have HMa := Aside0.mk (show m < n ∧ a < m by omega)
  clear hbm
  go_enter Try.func58, Try.ntmps58
  go_wp2_with fail
  go_loopw [14, 15] (fun v14 v15 w' => RelA2 cf w base ok g n c xs a m m v14 v15 w') (fun v14 v15 _ => (intOf v15).toNat - (intOf v14).toNat)
  case atStart => exact .mk a m rfl rfl (Nat.le_refl _) (by omega) (Nat.le_refl _) (fun h => absurd h (Nat.lt_irrefl _)) (fun h => absurd h (Nat.lt_irrefl _)) HR.out
  case round =>
    clear HR
    obtain ⟨i, j, rfl, rfl, hi, hij, hj, hI, hJ, hR⟩ := hrel
    have HI := Aside0.mk hI
    have HJ := Aside0.mk hJ
    have HR := Aside0.mk hR
    clear hI hJ hR
    by_cases hlt : i < j
    · obtain ⟨h, hh⟩ : ∃ h, h = (i + j) / 2 := ⟨_, rfl⟩
      have HX := Aside0.mk (show i ≤ h ∧ h < j ∧ (i : Int) < (j : Int) ∧ ((i : Int) + (j : Int)) / 2 = (h : Int) ∧ (h : Int) < (n : Int) ∧ (m : Int) < (n : Int) ∧ h < 9223372036854775808 by have := HMa.out; omega)
      have hal := HMa.out
      obtain ⟨d0, d1, d2, d3⟩ := kq_get HR.out.row m (by omega)
      simp only [encSL] at d1 d2
      obtain ⟨c0, c1, c2, c3⟩ := kq_get HR.out.row h (by omega)
      simp only [encSL] at c1 c2
      have hm1 : at_ xs m ∈ xs := (by have hl := HR.out.len; show xs.getD m zQ ∈ xs; rw [List.getD_eq_getElem?_getD, List.getElem?_eq_getElem (by omega)]; exact List.getElem_mem _)
      have hm0 : at_ xs h ∈ xs := (by have hl := HR.out.len; show xs.getD h zQ ∈ xs; rw [List.getD_eq_getElem?_getD, List.getElem?_eq_getElem (by omega)]; exact List.getElem_mem _)
      have HC := Aside0.mk (fun w' (h : w.grownBy w' (some g)) => HCmp.out w' h _ hm1 _ hm0)
      generalize hp1 : xs.getD m zQ = p at *
      generalize hq1 : xs.getD h zQ = q at *
      have HPq := Aside0.mk (show at_ xs m = p ∧ at_ xs h = q from ⟨hp1, hq1⟩)
      rw [HPq.out.1, HPq.out.2] at HC
      clear hp1 hq1 hm1 hm0 hlt hh hal
      have hij2 := HX.out.2.2.1
      have hhi := HX.out.2.2.2.1
      have hhn := HX.out.2.2.2.2.1
      have han := HX.out.2.2.2.2.2.1
      have hwu : IntKind.u64.wrap ((i : Int) + (j : Int)) = (i : Int) + (j : Int) := wraps_u64 _ (by omega) (by omega)
      have hwh : wrap64 (h : Int) = (h : Int) := w64 rfl HX.out.2.2.2.2.2.2
      go_wp2_with fail
      refine start_ (n := 12) (S := fun w' => w'.cell? ⟨g, m * 4, none⟩ = some (.int .i64 p.1) ∧ w'.cell? ⟨g, m * 4 + 1, none⟩ = some (.slice p.2.1.1 p.2.1.2.1 p.2.1.2.2) ∧ w'.cell? ⟨g, m * 4 + 2, none⟩ = some (.slice p.2.2.1.1 p.2.2.1.2.1 p.2.2.1.2.2) ∧ w'.cell? ⟨g, m * 4 + 3, none⟩ = some (.int .u64 p.2.2.2) ∧ w'.cell? ⟨g, h * 4, none⟩ = some (.int .i64 q.1) ∧ w'.cell? ⟨g, h * 4 + 1, none⟩ = some (.slice q.2.1.1 q.2.1.2.1 q.2.1.2.2) ∧ w'.cell? ⟨g, h * 4 + 2, none⟩ = some (.slice q.2.2.1.1 q.2.2.1.2.1 q.2.2.1.2.2) ∧ w'.cell? ⟨g, h * 4 + 3, none⟩ = some (.int .u64 q.2.2.2)) (ds := []) #[false, false, false, false, false, false, false, false, false, false, false, false] (by kernel_rfl) rfl rfl ⟨d0, d1, d2, d3, c0, c1, c2, c3⟩ (fun hHeld => ?_)
      refine pure_ (i := 0) (N := some 92) (v := ?_) (a' := ?_) #[true, false, false, false, false, false, false, false, false, false, false, false] rfl rfl (by kernel_rfl) (fun _ _ _ h => h) (Or.inl ⟨by rfl, ?_⟩) ?_ ?_
      rotate_left
      · intro w'
        go_simp
        with_reducible rfl
      rotate_left
      · simp only [Act.put, List.setIfInBounds_toArray, List.set_cons_zero, List.set_cons_succ, i64_w, i32_w]
        rfl
      refine pure_ (i := 1) (N := some 93) (v := ?_) (a' := ?_) #[true, true, false, false, false, false, false, false, false, false, false, false] rfl rfl (by kernel_rfl) (fun _ _ _ h => h) (Or.inl ⟨by rfl, ?_⟩) ?_ ?_
      rotate_left
      · intro w'
        go_simp
        with_reducible rfl
      rotate_left
      · simp only [Act.put, List.setIfInBounds_toArray, List.set_cons_zero, List.set_cons_succ, i64_w, i32_w]
        rfl
      refine pure_ (i := 2) (N := some 94) (v := ?_) (a' := ?_) #[true, true, true, false, false, false, false, false, false, false, false, false] rfl rfl (by kernel_rfl) (fun _ _ _ h => h) (Or.inl ⟨by rfl, ?_⟩) ?_ ?_
      rotate_left
      · intro w'
        go_simp
        with_reducible rfl
      rotate_left
      · simp only [Act.put, List.setIfInBounds_toArray, List.set_cons_zero, List.set_cons_succ, i64_w, i32_w]
        rfl
      refine pure_ (i := 3) (N := some 95) (v := ?_) (a' := ?_) #[true, true, true, true, false, false, false, false, false, false, false, false] rfl rfl (by kernel_rfl) (fun _ _ _ h => h) (Or.inl ⟨by rfl, ?_⟩) ?_ ?_
      rotate_left
      · intro w'
        go_simp
        with_reducible rfl
      rotate_left
      · simp only [Act.put, List.setIfInBounds_toArray, List.set_cons_zero, List.set_cons_succ, i64_w, i32_w]
        rfl
      refine pure_ (i := 5) (N := some 97) (v := ?_) (a' := ?_) #[true, true, true, true, false, true, false, false, false, false, false, false] rfl rfl (by kernel_rfl) (fun _ _ _ h => h) (Or.inl ⟨by rfl, ?_⟩) ?_ ?_
      rotate_left
      · intro w'
        go_simp
        with_reducible rfl
      rotate_left
      · simp only [Act.put, List.setIfInBounds_toArray, List.set_cons_zero, List.set_cons_succ, i64_w, i32_w]
        rfl
      refine pure_ (i := 6) (N := some 98) (v := ?_) (a' := ?_) #[true, true, true, true, false, true, true, false, false, false, false, false] rfl rfl (by kernel_rfl) (fun _ _ _ h => h) (Or.inl ⟨by rfl, ?_⟩) ?_ ?_
      rotate_left
      · intro w'
        go_simp
        with_reducible rfl
      rotate_left
      · simp only [Act.put, List.setIfInBounds_toArray, List.set_cons_zero, List.set_cons_succ, i64_w, i32_w]
        rfl
      refine pure_ (i := 7) (N := some 99) (v := ?_) (a' := ?_) #[true, true, true, true, false, true, true, true, false, false, false, false] rfl rfl (by kernel_rfl) (fun _ _ _ h => h) (Or.inl ⟨by rfl, ?_⟩) ?_ ?_
      rotate_left
      · intro w'
        go_simp
        with_reducible rfl
      rotate_left
      · simp only [Act.put, List.setIfInBounds_toArray, List.set_cons_zero, List.set_cons_succ, i64_w, i32_w]
        rfl
      refine take_ (i := 4) (N := some 96) (v := ?_) (a' := ?_) #[true, true, true, true, true, true, true, true, false, false, false, false] rfl rfl (by kernel_rfl) (fun _ _ _ h => h) (Or.inl ⟨by rfl, ?_⟩) hHeld ?_ ?_
      rotate_left
      · rintro w' ⟨s0, s1, s2, s3, s4, s5, s6, s7⟩
        go_simp
        with_reducible rfl
      rotate_left
      · simp only [Act.put, List.setIfInBounds_toArray, List.set_cons_zero, List.set_cons_succ, i64_w, i32_w]
        rfl
      refine take_ (i := 8) (N := some 100) (v := ?_) (a' := ?_) #[true, true, true, true, true, true, true, true, true, false, false, false] rfl rfl (by kernel_rfl) (fun _ _ _ h => h) (Or.inl ⟨by rfl, ?_⟩) hHeld ?_ ?_
      rotate_left
      · rintro w' ⟨s0, s1, s2, s3, s4, s5, s6, s7⟩
        go_simp
        with_reducible rfl
      rotate_left
      · simp only [Act.put, List.setIfInBounds_toArray, List.set_cons_zero, List.set_cons_succ, i64_w, i32_w]
        rfl
      refine one_ (i := 9) (N := some 101) #[true, true, true, true, true, true, true, true, true, true, false, false] rfl rfl (by kernel_rfl) (by decide) (fun K hK => ?_)
      refine goesv_ HF.out HNm.out HBd.out (#[.agg #[.int .i64 p.1, .slice p.2.1.1 p.2.1.2.1 p.2.1.2.2, .slice p.2.2.1.1 p.2.2.1.2.1 p.2.2.1.2.2, .int .u64 p.2.2.2], .agg #[.int .i64 q.1, .slice q.2.1.1 q.2.1.2.1 q.2.1.2.2, .slice q.2.2.1.1 q.2.2.1.2.1 q.2.2.1.2.2, .int .u64 q.2.2.2]]) (by rfl) rfl rfl rfl (by simp only [List.map_toArray, List.map_cons, List.map_nil]; rfl) ?_
      with_reducible refine (HC.out _ (grown_drew HR.out.grown)).mono ?_
      rintro e w3 ⟨rfl, hb⟩
      refine ⟨_, rfl, ?_⟩
      have hbx := Aside0.mk (below_then (below_drew (Below.refl _ _)) (Nat.le_refl _) hb)
      have HR3 := Aside0.mk (HR.out.below hbx.out)
      clear hb
      refine hK.out _ _ ⟨(pw_cell_below hbx.out d0), (pw_cell_below hbx.out d1), (pw_cell_below hbx.out d2), (pw_cell_below hbx.out d3), (pw_cell_below hbx.out c0), (pw_cell_below hbx.out c1), (pw_cell_below hbx.out c2), (pw_cell_below hbx.out c3)⟩ (fun hHeld => ?_)
      clear hK K
      refine norm_ (a' := ?_) ?_ ?_
      rotate_left
      · show Act.put _ (some 101) _ = _
        simp only [Act.put, List.setIfInBounds_toArray, List.set_cons_zero, List.set_cons_succ, i64_w, i32_w]
        rfl
      refine pure_ (i := 10) (N := some 102) (v := ?_) (a' := ?_) #[true, true, true, true, true, true, true, true, true, true, true, false] rfl rfl (by kernel_rfl) (fun _ _ _ h => h) (Or.inl ⟨by rfl, ?_⟩) ?_ ?_
      rotate_left
      · intro w'
        go_simp
        with_reducible rfl
      rotate_left
      · simp only [Act.put, List.setIfInBounds_toArray, List.set_cons_zero, List.set_cons_succ, i64_w, i32_w]
        rfl
      refine pure_ (i := 11) (N := some 103) (v := ?_) (a' := ?_) #[true, true, true, true, true, true, true, true, true, true, true, true] rfl rfl (by kernel_rfl) (fun _ _ _ h => h) (Or.inl ⟨by rfl, ?_⟩) ?_ ?_
      rotate_left
      · intro w'
        go_simp
        with_reducible rfl
      rotate_left
      · simp only [Act.put, List.setIfInBounds_toArray, List.set_cons_zero, List.set_cons_succ, i64_w, i32_w]
        rfl
      refine done_ (by kernel_rfl) ?_
      clear hHeld d0 d1 d2 d3 c0 c1 c2 c3 HR HC hbx
      by_cases hc : cf p q < 0
      · have hcd : decide (cf p q < 0) = true := decide_eq_true hc
        have hcd2 : decide (0 ≤ cf p q) = false := decide_eq_false (Int.not_le.2 hc)
        have HCq := Aside0.mk hc
        clear hc
        rw [hcd]; simp only [Bool.not_true, Bool.not_false]
        go_wp2_with fail
        go_roundw
        case rel => exact .mk i h rfl rfl hi (by have := HX.out; clear hwu hwh; omega) (by have := HX.out; clear hwu hwh; omega) (fun h => Int.not_lt.2 (HI.out h)) (fun _ => by rw [HPq.out.1, HPq.out.2]; exact HCq.out) HR3.out
        case measure => have := HX.out; clear hwu hwh; simp [intOf]; omega
      · have hcd : decide (cf p q < 0) = false := decide_eq_false hc
        have hcd2 : decide (0 ≤ cf p q) = true := decide_eq_true (Int.not_lt.1 hc)
        have HCq := Aside0.mk (Int.not_lt.1 hc)
        clear hc
        rw [hcd]; simp only [Bool.not_true, Bool.not_false]
        go_wp2_with fail
        go_roundw
        case rel => exact .mk (h + 1) j (by clear hwu hwh; go_num) rfl (by have := HX.out; clear hwu hwh; omega) (by have := HX.out; clear hwu hwh; omega) hj (fun _ => by rw [Nat.add_sub_cancel, HPq.out.1, HPq.out.2]; exact Int.not_lt.2 HCq.out) HJ.out HR3.out
        case measure => have := HX.out; clear hwu hwh; simp [intOf]; omega
    · obtain rfl : i = j := by omega
      have t3 : decide (i < i) = false := decide_eq_false (by omega)
      clear hlt
      have HIb := Aside0.mk (show a ≤ i ∧ i ≤ m ∧ b = m + 1 ∧ m < n from ⟨hi, hj, HM.out, HMa.out.1⟩)
      go_wp2_with fail
      go_loopw [17] (fun v17 w' => RelB2 w base ok g n c xs i m v17 w') (fun v17 _ => (intOf v17).toNat)
      case atStart => exact .mk m xs rfl hj (Nat.le_refl _) HR.out (rot_none1 m (m + 1) _).symm
      case round =>
        clear HR
        obtain ⟨k, ys, rfl, hak, hki, hR, hS⟩ := hrel
        have HR := Aside0.mk hR
        have HS := Aside0.mk hS
        clear hR hS
        by_cases hk : i < k
        · obtain ⟨y, hy⟩ : ∃ y, k = y + 1 := ⟨k - 1, by omega⟩
          have HKb := Aside0.mk (show k = y + 1 ∧ i ≤ y ∧ (i : Int) < (k : Int) ∧ (k : Int) - 1 = (y : Int) ∧ y < 9223372036854775808 ∧ (k : Int) < (n : Int) ∧ (y : Int) < (n : Int) ∧ ¬ k = y ∧ ¬ y = k by have := HMa.out; omega)
          have hmn := HMa.out
          obtain ⟨d0, d1, d2, d3⟩ := kq_get HR.out.row k (by omega)
          simp only [encSL] at d1 d2
          obtain ⟨c0, c1, c2, c3⟩ := kq_get HR.out.row y (by omega)
          simp only [encSL] at c1 c2
          have HSw := Aside0.mk (RS.swap2 HR.out k y (by omega) (by omega) (by omega) _ _ rfl rfl)
          have HS2 := Aside0.mk (show swapF k y 1 (at_ ys) = rotF y m (m + 1) (at_ xs) by rw [HS.out, hy]; exact rot_left y m _ (by omega))
          obtain ⟨cs3, hcs3⟩ := Kd.R_typed HR.out.row g rfl
          have hfz : ∀ o, wr.frozen? ⟨g, o, none⟩ = false := fun o => blk_frozen hcs3 o
          generalize hp1 : ys.getD k zQ = p at *
          generalize hq1 : ys.getD y zQ = q at *
          clear hp1 hq1
          have hkn := HKb.out.2.2.2.2.2.1
          have hyn := HKb.out.2.2.2.2.2.2.1
          have hxy := HKb.out.2.2.2.2.2.2.2.1
          have hyx := HKb.out.2.2.2.2.2.2.2.2
          have hki2 := HKb.out.2.2.1
          have HAk := Aside0.mk hki
          clear hy hk hak hki hmn
          have hwy : wrap64 ((k : Int) - 1) = (y : Int) := w64 HKb.out.2.2.2.1 HKb.out.2.2.2.2.1
          go_wp2_with fail
          refine start_ (n := 18) (S := fun w' => w'.cell? ⟨g, y * 4, none⟩ = some (.int .i64 q.1) ∧ w'.cell? ⟨g, y * 4 + 1, none⟩ = some (.slice q.2.1.1 q.2.1.2.1 q.2.1.2.2) ∧ w'.cell? ⟨g, y * 4 + 2, none⟩ = some (.slice q.2.2.1.1 q.2.2.1.2.1 q.2.2.1.2.2) ∧ w'.cell? ⟨g, y * 4 + 3, none⟩ = some (.int .u64 q.2.2.2) ∧ w'.cell? ⟨g, k * 4, none⟩ = some (.int .i64 p.1) ∧ w'.cell? ⟨g, k * 4 + 1, none⟩ = some (.slice p.2.1.1 p.2.1.2.1 p.2.1.2.2) ∧ w'.cell? ⟨g, k * 4 + 2, none⟩ = some (.slice p.2.2.1.1 p.2.2.1.2.1 p.2.2.1.2.2) ∧ w'.cell? ⟨g, k * 4 + 3, none⟩ = some (.int .u64 p.2.2.2) ∧ ∀ o, w'.frozen? ⟨g, o, none⟩ = false) (ds := [15, 17]) #[false, false, false, false, false, false, false, false, false, false, false, false, false, false, false, false, false, false] (by kernel_rfl) rfl rfl ⟨c0, c1, c2, c3, d0, d1, d2, d3, hfz⟩ (fun hHeld => ?_)
          refine pure_ (i := 0) (N := some 113) (v := ?_) (a' := ?_) #[true, false, false, false, false, false, false, false, false, false, false, false, false, false, false, false, false, false] rfl rfl (by kernel_rfl) (fun _ _ _ h => h) (Or.inl ⟨by rfl, ?_⟩) ?_ ?_
          rotate_left
          · intro w'
            go_simp
            with_reducible rfl
          rotate_left
          · simp only [Act.put, List.setIfInBounds_toArray, List.set_cons_zero, List.set_cons_succ, i64_w, i32_w]
            rfl
          refine pure_ (i := 1) (N := some 114) (v := ?_) (a' := ?_) #[true, true, false, false, false, false, false, false, false, false, false, false, false, false, false, false, false, false] rfl rfl (by kernel_rfl) (fun _ _ _ h => h) (Or.inl ⟨by rfl, ?_⟩) ?_ ?_
          rotate_left
          · intro w'
            go_simp
            with_reducible rfl
          rotate_left
          · simp only [Act.put, List.setIfInBounds_toArray, List.set_cons_zero, List.set_cons_succ, i64_w, i32_w]
            rfl
          refine pure_ (i := 2) (N := some 115) (v := ?_) (a' := ?_) #[true, true, true, false, false, false, false, false, false, false, false, false, false, false, false, false, false, false] rfl rfl (by kernel_rfl) (fun _ _ _ h => h) (Or.inl ⟨by rfl, ?_⟩) ?_ ?_
          rotate_left
          · intro w'
            go_simp
            with_reducible rfl
          rotate_left
          · simp only [Act.put, List.setIfInBounds_toArray, List.set_cons_zero, List.set_cons_succ, i64_w, i32_w]
            rfl
          refine pure_ (i := 3) (N := some 116) (v := ?_) (a' := ?_) #[true, true, true, true, false, false, false, false, false, false, false, false, false, false, false, false, false, false] rfl rfl (by kernel_rfl) (fun _ _ _ h => h) (Or.inl ⟨by rfl, ?_⟩) ?_ ?_
          rotate_left
          · intro w'
            go_simp
            with_reducible rfl
          rotate_left
          · simp only [Act.put, List.setIfInBounds_toArray, List.set_cons_zero, List.set_cons_succ, i64_w, i32_w]
            rfl
          refine pure_ (i := 4) (N := some 117) (v := ?_) (a' := ?_) #[true, true, true, true, true, false, false, false, false, false, false, false, false, false, false, false, false, false] rfl rfl (by kernel_rfl) (fun _ _ _ h => h) (Or.inl ⟨by rfl, ?_⟩) ?_ ?_
          rotate_left
          · intro w'
            go_simp
            with_reducible rfl
          rotate_left
          · simp only [Act.put, List.setIfInBounds_toArray, List.set_cons_zero, List.set_cons_succ, i64_w, i32_w]
            rfl
          refine pure_ (i := 5) (N := some 118) (v := ?_) (a' := ?_) #[true, true, true, true, true, true, false, false, false, false, false, false, false, false, false, false, false, false] rfl rfl (by kernel_rfl) (fun _ _ _ h => h) (Or.inl ⟨by rfl, ?_⟩) ?_ ?_
          rotate_left
          · intro w'
            go_simp
            with_reducible rfl
          rotate_left
          · simp only [Act.put, List.setIfInBounds_toArray, List.set_cons_zero, List.set_cons_succ, i64_w, i32_w]
            rfl
          refine pure_ (i := 6) (N := some 119) (v := ?_) (a' := ?_) #[true, true, true, true, true, true, true, false, false, false, false, false, false, false, false, false, false, false] rfl rfl (by kernel_rfl) (fun _ _ _ h => h) (Or.inl ⟨by rfl, ?_⟩) ?_ ?_
          rotate_left
          · intro w'
            go_simp
            with_reducible rfl
          rotate_left
          · simp only [Act.put, List.setIfInBounds_toArray, List.set_cons_zero, List.set_cons_succ, i64_w, i32_w]
            rfl
          refine pure_ (i := 7) (N := some 120) (v := ?_) (a' := ?_) #[true, true, true, true, true, true, true, true, false, false, false, false, false, false, false, false, false, false] rfl rfl (by kernel_rfl) (fun _ _ _ h => h) (Or.inl ⟨by rfl, ?_⟩) ?_ ?_
          rotate_left
          · intro w'
            go_simp
            with_reducible rfl
          rotate_left
          · simp only [Act.put, List.setIfInBounds_toArray, List.set_cons_zero, List.set_cons_succ, i64_w, i32_w]
            rfl
          refine pure_ (i := 8) (N := some 121) (v := ?_) (a' := ?_) #[true, true, true, true, true, true, true, true, true, false, false, false, false, false, false, false, false, false] rfl rfl (by kernel_rfl) (fun _ _ _ h => h) (Or.inl ⟨by rfl, ?_⟩) ?_ ?_
          rotate_left
          · intro w'
            go_simp
            with_reducible rfl
          rotate_left
          · simp only [Act.put, List.setIfInBounds_toArray, List.set_cons_zero, List.set_cons_succ, i64_w, i32_w]
            rfl
          refine pure_ (i := 10) (N := some 123) (v := ?_) (a' := ?_) #[true, true, true, true, true, true, true, true, true, false, true, false, false, false, false, false, false, false] rfl rfl (by kernel_rfl) (fun _ _ _ h => h) (Or.inl ⟨by rfl, ?_⟩) ?_ ?_
          rotate_left
          · intro w'
            go_simp
            with_reducible rfl
          rotate_left
          · simp only [Act.put, List.setIfInBounds_toArray, List.set_cons_zero, List.set_cons_succ, i64_w, i32_w]
            rfl
          refine pure_ (i := 11) (N := some 124) (v := ?_) (a' := ?_) #[true, true, true, true, true, true, true, true, true, false, true, true, false, false, false, false, false, false] rfl rfl (by kernel_rfl) (fun _ _ _ h => h) (Or.inl ⟨by rfl, ?_⟩) ?_ ?_
          rotate_left
          · intro w'
            go_simp
            with_reducible rfl
          rotate_left
          · simp only [Act.put, List.setIfInBounds_toArray, List.set_cons_zero, List.set_cons_succ, i64_w, i32_w]
            rfl
          refine pure_ (i := 12) (N := some 125) (v := ?_) (a' := ?_) #[true, true, true, true, true, true, true, true, true, false, true, true, true, false, false, false, false, false] rfl rfl (by kernel_rfl) (fun _ _ _ h => h) (Or.inl ⟨by rfl, ?_⟩) ?_ ?_
          rotate_left
          · intro w'
            go_simp
            with_reducible rfl
          rotate_left
          · simp only [Act.put, List.setIfInBounds_toArray, List.set_cons_zero, List.set_cons_succ, i64_w, i32_w]
            rfl
          refine take_ (i := 9) (N := some 122) (v := ?_) (a' := ?_) #[true, true, true, true, true, true, true, true, true, true, true, true, true, false, false, false, false, false] rfl rfl (by kernel_rfl) (fun _ _ _ h => h) (Or.inl ⟨by rfl, ?_⟩) hHeld ?_ ?_
          rotate_left
          · rintro w' ⟨s0, s1, s2, s3, s4, s5, s6, s7, s8⟩
            go_simp
            with_reducible rfl
          rotate_left
          · simp only [Act.put, List.setIfInBounds_toArray, List.set_cons_zero, List.set_cons_succ, i64_w, i32_w]
            rfl
          refine take_ (i := 13) (N := some 126) (v := ?_) (a' := ?_) #[true, true, true, true, true, true, true, true, true, true, true, true, true, true, false, false, false, false] rfl rfl (by kernel_rfl) (fun _ _ _ h => h) (Or.inl ⟨by rfl, ?_⟩) hHeld ?_ ?_
          rotate_left
          · rintro w' ⟨s0, s1, s2, s3, s4, s5, s6, s7, s8⟩
            go_simp
            with_reducible rfl
          rotate_left
          · simp only [Act.put, List.setIfInBounds_toArray, List.set_cons_zero, List.set_cons_succ, i64_w, i32_w]
            rfl
          refine pure_ (i := 14) (N := some 127) (v := ?_) (a' := ?_) #[true, true, true, true, true, true, true, true, true, true, true, true, true, true, true, false, false, false] rfl rfl (by kernel_rfl) (fun _ _ _ h => h) (Or.inl ⟨by rfl, ?_⟩) ?_ ?_
          rotate_left
          · intro w'
            go_simp
            with_reducible rfl
          rotate_left
          · simp only [Act.put, List.setIfInBounds_toArray, List.set_cons_zero, List.set_cons_succ, i64_w, i32_w]
            rfl
          refine last_ (i := 15) (N := none) #[true, true, true, true, true, true, true, true, true, true, true, true, true, true, true, true, false, false] rfl rfl (by kernel_rfl) (by decide) (fun K hK => ?_)
          refine skip_ (w1 := ?_) (by rfl) rfl ?_ ?_
          rotate_left
          · go_simp
            rfl
          refine hK.out _ _ ?_
          clear hK K
          refine pure_ (i := 16) (N := some 128) (v := ?_) (a' := ?_) #[true, true, true, true, true, true, true, true, true, true, true, true, true, true, true, true, true, false] rfl rfl (by kernel_rfl) (fun _ _ _ h => h) (Or.inl ⟨by rfl, ?_⟩) ?_ ?_
          rotate_left
          · intro w'
            go_simp
            with_reducible rfl
          rotate_left
          · simp only [Act.put, List.setIfInBounds_toArray, List.set_cons_zero, List.set_cons_succ, i64_w, i32_w]
            rfl
          refine last_ (i := 17) (N := none) #[true, true, true, true, true, true, true, true, true, true, true, true, true, true, true, true, true, true] rfl rfl (by kernel_rfl) (by decide) (fun K hK => ?_)
          refine skip_ (w1 := ?_) (by rfl) rfl ?_ ?_
          rotate_left
          · go_simp
            rfl
          refine hK.out _ _ ?_
          clear hK K
          refine done_ (by kernel_rfl) ?_
          have HR4 := Aside0.mk HSw.out.1.drew
          have HS4 := Aside0.mk (HSw.out.2.trans HS2.out)
          clear HR HSw HS HS2 hHeld hcs3 hfz d0 d1 d2 d3 c0 c1 c2 c3
          generalize World.drew _ = w4 at *
          go_wp2_with fail
          go_roundw
          case rel => exact .mk y _ (by have := HKb.out; first | (rw [hwy]) | (clear hwy; go_num)) (by have := HKb.out; clear hwy; omega) (by have := HKb.out; have := HAk.out; clear hwy; omega) HR4.out HS4.out
          case measure => have := HKb.out; first | (rw [hwy]; clear hwy; simp [intOf]; omega) | (clear hwy; simp [intOf]; omega)
        · have e0 : k = i := by omega
          subst e0
          have hk3 : decide (k < k) = false := decide_eq_false hk
          clear hk
          go_wp2_with fail
          (try simp only [Exit.inBlock, Exit.then]); refine bodyPost_ret (results_none rfl _ _ _) rfl ?_
          have := HM.out
          refine ⟨rfl, ys, HR.out, ?_, ?_⟩
          · rw [HS.out]; exact (rot_in (by omega) (by omega)).wide (by omega) (by omega)
          · rw [HS.out]; exact sym_leaf HP.out H1.out H2.out (by omega) (by omega) (by omega) (by omega) (fun h _ => Int.not_lt.2 (HI.out h)) (fun h _ => by rw [Nat.add_sub_cancel]; exact HP.out.asym _ _ (HJ.out h)) (fun _ h => by omega) (fun _ h => by omega)
end Go.Proofs.Ytfeeahjaeapkoaa.Ext
end

section
namespace Go.Proofs.Ytfeeahjaeapkoaa.Ext
set_option linter.unusedVariables false
set_option linter.unusedSimpArgs false
open Go.RowKit Go.Proofs.YtfeeahjaeapkoaaW.PrintWords Go.Proofs.YtfeeahjaeapkoaaW.PrintLast Go.Proofs.YtfeeahjaeapkoaaW.PrintMore Go.Proofs.Ytfeeahjaeapkoaa.Lib
inductive RelC (w : World) (base : Nat) (ok : Nat → Prop) (g n c : Nat) (xs : List Q) (a m b mid nn : Nat) (v1 v2 : Value) (w' : World) : Prop
  | mk (lo hi : Nat) (e1 : v1 = .int .i64 lo) (e2 : v2 = .int .i64 hi) (hf : a ≤ lo ∧ lo ≤ hi ∧ hi ≤ m ∧ hi ≤ mid ∧ nn ≤ lo + b ∧ (lo = a ∨ lo + b = nn) ∧ (hi = m ∨ hi = mid)) (hrs : RS w w' base ok g n c xs xs)
inductive RelE (w : World) (base : Nat) (ok : Nat → Prop) (g n c : Nat) (xs ys : List Q) (s m e : Nat) (v : Value) (w' : World) : Prop
  | mk (t : Bool) (e1 : v = .bool t) (hy : t = true → s < m ∧ m < e) (hn : t = false → m ≤ s ∨ e ≤ m) (hrs : RS w w' base ok g n c xs ys)
inductive RelD (w : World) (base : Nat) (ok : Nat → Prop) (g n c : Nat) (xs : List Q) (s m e : Nat) (w' : World) : Prop
  | mk (ys : List Q) (hrs : RS w w' base ok g n c xs ys) (hy : at_ ys = rotF s m e (at_ xs))
inductive RelF (cf : Q → Q → Int) (w : World) (base : Nat) (ok : Nat → Prop) (g n c : Nat) (xs ys : List Q) (a b : Nat) (w' : World) : Prop
  | mk (zs : List Q) (hrs : RS w w' base ok g n c xs zs) (hi : In a b (at_ ys) (at_ zs)) (hs : SrtOn cf (at_ zs) a b)
theorem CmpOk.next {f : FuncId} {cf : Q → Q → Int} {w w' : World} {base : Nat} {ok : Nat → Prop} {g n c : Nat} {xs ys : List Q} (h : CmpOk f cf w g xs) (hr : RS w w' base ok g n c xs ys) : CmpOk f cf w' g ys := fun w2 h2 p hp q hq => h w2 (grown_trans hr.grown h2) p (hr.perm.mem_iff.1 hp) q (hr.perm.mem_iff.1 hq)
set_option maxRecDepth 100000 in
set_option maxHeartbeats 3200000 in
theorem sym3_calls (cf : Q → Q → Int) (hp : Pre cf) (f : FuncId) (fn : Func) (hf : Try.prog.funcs[f]? = some fn) (hname : (fn.name == "runtime.NumGoroutine") = false) (hbody : fn.body.isSome = true) (g c n : Nat) (base : Nat) (ok : Nat → Prop) (hn : n ≤ 1152921504606846976) (a m b : Nat) (xs : List Q) (w : World)
    (hrow : kq.R 40 w base ok (.slice (some ⟨g, 0, none⟩) n c) xs) (hcmp : CmpOk f cf w g xs) (h1 : SrtOn cf (at_ xs) a m) (h2 : SrtOn cf (at_ xs) m b) (hma : a + 1 < m) (hmb : m + 1 < b) (hb : b ≤ n)
    (hIH : ∀ (a' m' b' : Nat) (xs' : List Q) (w' : World), b' - a' < b - a → a' < m' → m' < b' → b' ≤ n → kq.R 40 w' base ok (.slice (some ⟨g, 0, none⟩) n c) xs' → CmpOk f cf w' g xs' → SrtOn cf (at_ xs') a' m' → SrtOn cf (at_ xs') m' b' →
      Calls Try.prog 58 #[.slice (some ⟨g, 0, none⟩) n c, .int .i64 a', .int .i64 m', .int .i64 b', .func (.func f) #[] #[]] w' fun e w2 => e = .returned (.tuple #[]) ∧ ∃ ys, RS w' w2 base ok g n c xs' ys ∧ In a' b' (at_ xs') (at_ ys) ∧ SrtOn cf (at_ ys) a' b') :
    Calls Try.prog 58 #[.slice (some ⟨g, 0, none⟩) n c, .int .i64 a, .int .i64 m, .int .i64 b, .func (.func f) #[] #[]] w fun e w' => e = .returned (.tuple #[]) ∧ ∃ ys, RS w w' base ok g n c xs ys ∧ In a b (at_ xs) (at_ ys) ∧ SrtOn cf (at_ ys) a b := by
  have HF := Aside0.mk hf
  have HNm := Aside0.mk hname
  have HBd := Aside0.mk hbody
  have HCmp := Aside0.mk hcmp
  have HP := Aside0.mk hp
  have H1 := Aside0.mk h1
  have H2 := Aside0.mk h2
  have HR := Aside0.mk (RS.refl hrow)
  clear hf hname hbody hcmp hrow hp h1 h2
  have HIH := Aside0.mk hIH
  obtain ⟨mid, hmid⟩ : ∃ x, x = (a + b) / 2 := ⟨_, rfl⟩
  obtain ⟨s0, hs0⟩ : ∃ x, x = a + b := ⟨_, rfl⟩
  obtain ⟨nn, hnn⟩ : ∃ x, x = mid + m := ⟨_, rfl⟩
  obtain ⟨pp, hpp⟩ : ∃ x, nn = x + 1 := ⟨nn - 1, by omega⟩
  have HN := Aside0.mk (show 2 * mid ≤ a + b ∧ a + b ≤ 2 * mid + 1 ∧ nn = mid + m ∧ nn = pp + 1 ∧ a + 1 < m ∧ m + 1 < b ∧ b ≤ n ∧ n ≤ 1152921504606846976 by omega)
  have t1 : (((m : Int) - (a : Int)) == 1) = false := beq_eq_false_iff_ne.2 (by omega)
  have t2 : (((b : Int) - (m : Int)) == 1) = false := beq_eq_false_iff_ne.2 (by omega)
  have W1 := Aside0.mk (show (a : Int) + (b : Int) = (s0 : Int) by omega)
  have WB := Aside0.mk (show a ≤ 1152921504606846976 ∧ b ≤ 1152921504606846976 ∧ m ≤ 1152921504606846976 ∧ mid ≤ 1152921504606846976 ∧ nn ≤ 2305843009213693952 ∧ s0 ≤ 2305843009213693952 by omega)
  have W2 := Aside0.mk (show IntKind.u64.wrap (s0 : Int) = (s0 : Int) from wraps_u64 _ (by omega) (by omega))
  have W3 := Aside0.mk (show (s0 : Int) / 2 = (mid : Int) by omega)
  have W5 := Aside0.mk (show (mid : Int) + (m : Int) = (nn : Int) by omega)
  have W6 := Aside0.mk (show (nn : Int) - 1 = (pp : Int) by omega)
  clear hIH hmid hnn hpp hs0
  go_enter Try.func58, Try.ntmps58
  go_upto_region 24 with fail
  clear hma hmb hb t1 t2 hn
  have w1 := W1.out
  have w2 := W2.out
  have w3 := W3.out
  obtain ⟨wa, wb, wm, wmid, wnn, ws⟩ := WB.out
  have w5 := W5.out
  go_upto_if 140 with fail
  clear w1 w2 w3 w5 wa ws
  go_cut [20, 21] (fun s1 s2 wx => RelC w base ok g n c xs a m b mid nn s1 s2 wx)
  case first => as_aux_lemma =>
    by_cases hc : mid < m
    · have hci : (mid : Int) < (m : Int) := by omega
      obtain ⟨lo, hlo⟩ : ∃ x, x = nn - b := ⟨_, rfl⟩
      have hf := HN.out
      have HC := Aside0.mk (show lo = nn - b ∧ mid < m by omega)
      have w1 : (nn : Int) - (b : Int) = (lo : Int) := by omega
      clear hlo hf hc
      go_wp2_with fail
      go_meet
      clear w1 hci
      exact .mk lo mid rfl rfl (by have hf := HN.out; have := HC.out; omega) HR.out
    · have hci : decide ((mid : Int) < (m : Int)) = false := decide_eq_false (by omega)
      have hcj : decide (mid < m) = false := decide_eq_false hc
      have HC := Aside0.mk hc
      have hck : (m : Int) ≤ (mid : Int) := by omega
      clear hc
      go_wp2_with fail
      go_meet
      clear hci hcj
      exact .mk a m rfl rfl (by have hf := HN.out; have := HC.out; omega) HR.out
  case rest => as_aux_lemma =>
    clear HR
    obtain ⟨lo, hi, rfl, rfl, hl, hR⟩ := hcut
    have HL := Aside0.mk hl
    have HR := Aside0.mk hR
    clear hl hR
    have w6 := W6.out
    go_wp2_with fail
    clear w6 wb wm wmid wnn
    go_loopw [20, 21] (fun v20 v21 w' => RelA3 cf w base ok g n c xs lo hi pp v20 v21 w') (fun v20 v21 _ => (intOf v21).toNat - (intOf v20).toNat)
    case atStart => exact .mk lo hi rfl rfl (Nat.le_refl _) HL.out.2.1 (Nat.le_refl _) (fun h => absurd h (Nat.lt_irrefl _)) (fun h => absurd h (Nat.lt_irrefl _)) HR.out
    case round => as_aux_lemma =>
      clear HR
      obtain ⟨i, j, rfl, rfl, hi1, hij, hj1, hI, hJ, hR⟩ := hrel
      have HI := Aside0.mk hI
      have HJ := Aside0.mk hJ
      have HR := Aside0.mk hR
      have hjn : j ≤ n ∧ n ≤ 1152921504606846976 := (by have := HN.out; have := HL.out; omega)
      clear hI hJ hR
      by_cases hlt : i < j
      · obtain ⟨h, hh⟩ : ∃ h, h = (i + j) / 2 := ⟨_, rfl⟩
        obtain ⟨y, hy⟩ : ∃ y, y = pp - h := ⟨_, rfl⟩
        have HX := Aside0.mk (show i ≤ h ∧ h < j ∧ (i : Int) < (j : Int) ∧ ((i : Int) + (j : Int)) / 2 = (h : Int) ∧ (h : Int) < (n : Int) ∧ (y : Int) < (n : Int) ∧ h < 9223372036854775808 ∧ (pp : Int) - (h : Int) = (y : Int) ∧ y < 9223372036854775808 ∧ y = pp - h by have := HN.out; have := HL.out; omega)
        have hal := HX.out
        obtain ⟨d0, d1, d2, d3⟩ := kq_get HR.out.row y (by omega)
        simp only [encSL] at d1 d2
        obtain ⟨c0, c1, c2, c3⟩ := kq_get HR.out.row h (by omega)
        simp only [encSL] at c1 c2
        have hm1 : at_ xs y ∈ xs := (by have hl := HR.out.len; show xs.getD y zQ ∈ xs; rw [List.getD_eq_getElem?_getD, List.getElem?_eq_getElem (by omega)]; exact List.getElem_mem _)
        have hm0 : at_ xs h ∈ xs := (by have hl := HR.out.len; show xs.getD h zQ ∈ xs; rw [List.getD_eq_getElem?_getD, List.getElem?_eq_getElem (by omega)]; exact List.getElem_mem _)
        have HC := Aside0.mk (fun w' (h : w.grownBy w' (some g)) => HCmp.out w' h _ hm1 _ hm0)
        generalize hp1 : xs.getD y zQ = p at *
        generalize hq1 : xs.getD h zQ = q at *
        have HPq := Aside0.mk (show at_ xs (pp - h) = p ∧ at_ xs h = q from ⟨by rw [← hy]; exact hp1, hq1⟩)
        rw [show at_ xs y = p from hp1, show at_ xs h = q from hq1] at HC
        clear hp1 hq1 hm1 hm0 hlt hh hal hy
        have hij2 := HX.out.2.2.1
        have hhi := HX.out.2.2.2.1
        have hhn := HX.out.2.2.2.2.1
        have hyn := HX.out.2.2.2.2.2.1
        have hwu : IntKind.u64.wrap ((i : Int) + (j : Int)) = (i : Int) + (j : Int) := wraps_u64 _ (by omega) (by have := HN.out; have := HL.out; omega)
        have hwh : wrap64 (h : Int) = (h : Int) := w64 rfl HX.out.2.2.2.2.2.2.1
        have hwy : wrap64 ((pp : Int) - (h : Int)) = (y : Int) := w64 HX.out.2.2.2.2.2.2.2.1 HX.out.2.2.2.2.2.2.2.2.1
        go_wp2_with fail
        refine start_ (n := 14) (S := fun w' => w'.cell? ⟨g, y * 4, none⟩ = some (.int .i64 p.1) ∧ w'.cell? ⟨g, y * 4 + 1, none⟩ = some (.slice p.2.1.1 p.2.1.2.1 p.2.1.2.2) ∧ w'.cell? ⟨g, y * 4 + 2, none⟩ = some (.slice p.2.2.1.1 p.2.2.1.2.1 p.2.2.1.2.2) ∧ w'.cell? ⟨g, y * 4 + 3, none⟩ = some (.int .u64 p.2.2.2) ∧ w'.cell? ⟨g, h * 4, none⟩ = some (.int .i64 q.1) ∧ w'.cell? ⟨g, h * 4 + 1, none⟩ = some (.slice q.2.1.1 q.2.1.2.1 q.2.1.2.2) ∧ w'.cell? ⟨g, h * 4 + 2, none⟩ = some (.slice q.2.2.1.1 q.2.2.1.2.1 q.2.2.1.2.2) ∧ w'.cell? ⟨g, h * 4 + 3, none⟩ = some (.int .u64 q.2.2.2)) (ds := []) #[false, false, false, false, false, false, false, false, false, false, false, false, false, false] (by kernel_rfl) rfl rfl ⟨d0, d1, d2, d3, c0, c1, c2, c3⟩ (fun hHeld => ?_)
        refine pure_ (i := 0) (N := some 158) (v := ?_) (a' := ?_) #[true, false, false, false, false, false, false, false, false, false, false, false, false, false] rfl rfl (by kernel_rfl) (fun _ _ _ h => h) (Or.inl ⟨by rfl, ?_⟩) ?_ ?_
        rotate_left
        · intro w'
          go_simp
          with_reducible rfl
        rotate_left
        · simp only [Act.put, List.setIfInBounds_toArray, List.set_cons_zero, List.set_cons_succ, i64_w, i32_w]
          rfl
        refine pure_ (i := 1) (N := some 159) (v := ?_) (a' := ?_) #[true, true, false, false, false, false, false, false, false, false, false, false, false, false] rfl rfl (by kernel_rfl) (fun _ _ _ h => h) (Or.inl ⟨by rfl, ?_⟩) ?_ ?_
        rotate_left
        · intro w'
          go_simp
          with_reducible rfl
        rotate_left
        · simp only [Act.put, List.setIfInBounds_toArray, List.set_cons_zero, List.set_cons_succ, i64_w, i32_w]
          rfl
        refine pure_ (i := 2) (N := some 160) (v := ?_) (a' := ?_) #[true, true, true, false, false, false, false, false, false, false, false, false, false, false] rfl rfl (by kernel_rfl) (fun _ _ _ h => h) (Or.inl ⟨by rfl, ?_⟩) ?_ ?_
        rotate_left
        · intro w'
          go_simp
          with_reducible rfl
        rotate_left
        · simp only [Act.put, List.setIfInBounds_toArray, List.set_cons_zero, List.set_cons_succ, i64_w, i32_w]
          rfl
        refine pure_ (i := 3) (N := some 161) (v := ?_) (a' := ?_) #[true, true, true, true, false, false, false, false, false, false, false, false, false, false] rfl rfl (by kernel_rfl) (fun _ _ _ h => h) (Or.inl ⟨by rfl, ?_⟩) ?_ ?_
        rotate_left
        · intro w'
          go_simp
          with_reducible rfl
        rotate_left
        · simp only [Act.put, List.setIfInBounds_toArray, List.set_cons_zero, List.set_cons_succ, i64_w, i32_w]
          rfl
        refine pure_ (i := 4) (N := some 162) (v := ?_) (a' := ?_) #[true, true, true, true, true, false, false, false, false, false, false, false, false, false] rfl rfl (by kernel_rfl) (fun _ _ _ h => h) (Or.inl ⟨by rfl, ?_⟩) ?_ ?_
        rotate_left
        · intro w'
          go_simp
          with_reducible rfl
        rotate_left
        · simp only [Act.put, List.setIfInBounds_toArray, List.set_cons_zero, List.set_cons_succ, i64_w, i32_w]
          rfl
        refine pure_ (i := 5) (N := some 163) (v := ?_) (a' := ?_) #[true, true, true, true, true, true, false, false, false, false, false, false, false, false] rfl rfl (by kernel_rfl) (fun _ _ _ h => h) (Or.inl ⟨by rfl, ?_⟩) ?_ ?_
        rotate_left
        · intro w'
          go_simp
          with_reducible rfl
        rotate_left
        · simp only [Act.put, List.setIfInBounds_toArray, List.set_cons_zero, List.set_cons_succ, i64_w, i32_w]
          rfl
        refine pure_ (i := 7) (N := some 165) (v := ?_) (a' := ?_) #[true, true, true, true, true, true, false, true, false, false, false, false, false, false] rfl rfl (by kernel_rfl) (fun _ _ _ h => h) (Or.inl ⟨by rfl, ?_⟩) ?_ ?_
        rotate_left
        · intro w'
          go_simp
          with_reducible rfl
        rotate_left
        · simp only [Act.put, List.setIfInBounds_toArray, List.set_cons_zero, List.set_cons_succ, i64_w, i32_w]
          rfl
        refine pure_ (i := 8) (N := some 166) (v := ?_) (a' := ?_) #[true, true, true, true, true, true, false, true, true, false, false, false, false, false] rfl rfl (by kernel_rfl) (fun _ _ _ h => h) (Or.inl ⟨by rfl, ?_⟩) ?_ ?_
        rotate_left
        · intro w'
          go_simp
          with_reducible rfl
        rotate_left
        · simp only [Act.put, List.setIfInBounds_toArray, List.set_cons_zero, List.set_cons_succ, i64_w, i32_w]
          rfl
        refine pure_ (i := 9) (N := some 167) (v := ?_) (a' := ?_) #[true, true, true, true, true, true, false, true, true, true, false, false, false, false] rfl rfl (by kernel_rfl) (fun _ _ _ h => h) (Or.inl ⟨by rfl, ?_⟩) ?_ ?_
        rotate_left
        · intro w'
          go_simp
          with_reducible rfl
        rotate_left
        · simp only [Act.put, List.setIfInBounds_toArray, List.set_cons_zero, List.set_cons_succ, i64_w, i32_w]
          rfl
        refine take_ (i := 6) (N := some 164) (v := ?_) (a' := ?_) #[true, true, true, true, true, true, true, true, true, true, false, false, false, false] rfl rfl (by kernel_rfl) (fun _ _ _ h => h) (Or.inl ⟨by rfl, ?_⟩) hHeld ?_ ?_
        rotate_left
        · rintro w' ⟨s0, s1, s2, s3, s4, s5, s6, s7⟩
          go_simp
          with_reducible rfl
        rotate_left
        · simp only [Act.put, List.setIfInBounds_toArray, List.set_cons_zero, List.set_cons_succ, i64_w, i32_w]
          rfl
        refine take_ (i := 10) (N := some 168) (v := ?_) (a' := ?_) #[true, true, true, true, true, true, true, true, true, true, true, false, false, false] rfl rfl (by kernel_rfl) (fun _ _ _ h => h) (Or.inl ⟨by rfl, ?_⟩) hHeld ?_ ?_
        rotate_left
        · rintro w' ⟨s0, s1, s2, s3, s4, s5, s6, s7⟩
          go_simp
          with_reducible rfl
        rotate_left
        · simp only [Act.put, List.setIfInBounds_toArray, List.set_cons_zero, List.set_cons_succ, i64_w, i32_w]
          rfl
        refine one_ (i := 11) (N := some 169) #[true, true, true, true, true, true, true, true, true, true, true, true, false, false] rfl rfl (by kernel_rfl) (by decide) (fun K hK => ?_)
        refine goesv_ HF.out HNm.out HBd.out (#[.agg #[.int .i64 p.1, .slice p.2.1.1 p.2.1.2.1 p.2.1.2.2, .slice p.2.2.1.1 p.2.2.1.2.1 p.2.2.1.2.2, .int .u64 p.2.2.2], .agg #[.int .i64 q.1, .slice q.2.1.1 q.2.1.2.1 q.2.1.2.2, .slice q.2.2.1.1 q.2.2.1.2.1 q.2.2.1.2.2, .int .u64 q.2.2.2]]) (by rfl) rfl rfl rfl (by simp only [List.map_toArray, List.map_cons, List.map_nil]; rfl) ?_
        with_reducible refine (HC.out _ (grown_drew HR.out.grown)).mono ?_
        rintro e w3 ⟨rfl, hb⟩
        refine ⟨_, rfl, ?_⟩
        have hbx := Aside0.mk (below_then (below_drew (Below.refl _ _)) (Nat.le_refl _) hb)
        have HR3 := Aside0.mk (HR.out.below hbx.out)
        clear hb
        refine hK.out _ _ ⟨(pw_cell_below hbx.out d0), (pw_cell_below hbx.out d1), (pw_cell_below hbx.out d2), (pw_cell_below hbx.out d3), (pw_cell_below hbx.out c0), (pw_cell_below hbx.out c1), (pw_cell_below hbx.out c2), (pw_cell_below hbx.out c3)⟩ (fun hHeld => ?_)
        clear hK K
        refine norm_ (a' := ?_) ?_ ?_
        rotate_left
        · show Act.put _ (some 169) _ = _
          simp only [Act.put, List.setIfInBounds_toArray, List.set_cons_zero, List.set_cons_succ, i64_w, i32_w]
          rfl
        refine pure_ (i := 12) (N := some 170) (v := ?_) (a' := ?_) #[true, true, true, true, true, true, true, true, true, true, true, true, true, false] rfl rfl (by kernel_rfl) (fun _ _ _ h => h) (Or.inl ⟨by rfl, ?_⟩) ?_ ?_
        rotate_left
        · intro w'
          go_simp
          with_reducible rfl
        rotate_left
        · simp only [Act.put, List.setIfInBounds_toArray, List.set_cons_zero, List.set_cons_succ, i64_w, i32_w]
          rfl
        refine pure_ (i := 13) (N := some 171) (v := ?_) (a' := ?_) #[true, true, true, true, true, true, true, true, true, true, true, true, true, true] rfl rfl (by kernel_rfl) (fun _ _ _ h => h) (Or.inl ⟨by rfl, ?_⟩) ?_ ?_
        rotate_left
        · intro w'
          go_simp
          with_reducible rfl
        rotate_left
        · simp only [Act.put, List.setIfInBounds_toArray, List.set_cons_zero, List.set_cons_succ, i64_w, i32_w]
          rfl
        refine done_ (by kernel_rfl) ?_
        clear hHeld d0 d1 d2 d3 c0 c1 c2 c3 HR HC hbx
        by_cases hc : cf p q < 0
        · have hcd : decide (cf p q < 0) = true := decide_eq_true hc
          have HCq := Aside0.mk hc
          clear hc
          rw [hcd]; simp only [Bool.not_true, Bool.not_false]
          go_wp2_with fail
          go_roundw
          case rel => exact .mk i h rfl rfl hi1 (by have := HX.out; clear hwu hwh hwy; omega) (by have := HX.out; clear hwu hwh hwy; omega) (fun h => Int.not_lt.2 (HI.out h)) (fun _ => by rw [HPq.out.1, HPq.out.2]; exact HCq.out) HR3.out
          case measure => have := HX.out; clear hwu hwh hwy; simp [intOf]; omega
        · have hcd : decide (cf p q < 0) = false := decide_eq_false hc
          have HCq := Aside0.mk (Int.not_lt.1 hc)
          clear hc
          rw [hcd]; simp only [Bool.not_true, Bool.not_false]
          go_wp2_with fail
          go_roundw
          case rel => exact .mk (h + 1) j (by clear hwu hwh hwy; go_num) rfl (by have := HX.out; clear hwu hwh hwy; omega) (by have := HX.out; clear hwu hwh hwy; omega) hj1 (fun _ => by rw [Nat.add_sub_cancel, HPq.out.1, HPq.out.2]; exact Int.not_lt.2 HCq.out) HJ.out HR3.out
          case measure => have := HX.out; clear hwu hwh hwy; simp [intOf]; omega
      · obtain rfl : i = j := by omega
        have t3 : decide (i < i) = false := decide_eq_false (by omega)
        clear hlt
        obtain ⟨e, he⟩ : ∃ e, e = nn - i := ⟨_, rfl⟩
        have HE := Aside0.mk (show a ≤ i ∧ i ≤ m ∧ m ≤ e ∧ e ≤ b ∧ i + (e - m) = mid ∧ (nn : Int) - (i : Int) = (e : Int) ∧ nn = i + e ∧ a < mid ∧ mid < b ∧ b ≤ n by have := HN.out; have := HL.out; omega)
        have HC1 := Aside0.mk (show a < i → e < b → ¬ cf (at_ xs e) (at_ xs (i - 1)) < 0 from fun h1 h2 => by
          have := HN.out; have := HL.out; have := HE.out
          have h3 : lo < i := by omega
          have h4 := HI.out h3
          rw [show pp - (i - 1) = e by omega] at h4
          first | exact h4 | exact Int.not_lt.2 h4)
        have HC2 := Aside0.mk (show i < m → m < e → cf (at_ xs (e - 1)) (at_ xs i) < 0 from fun h1 h2 => by
          have := HN.out; have := HL.out; have := HE.out
          have h3 : i < hi := by omega
          have h4 := HJ.out h3
          rw [show pp - i = e - 1 by omega] at h4
          exact h4)
        have e4 := HE.out.2.2.2.2.2.1
        have wb : nn ≤ 2305843009213693952 ∧ i ≤ nn ∧ m ≤ n := by have := HE.out; have := WB.out; omega
        clear he hi1 hij hj1 HI HJ
        go_upto_region 39 with fail
        go_cut [185] (fun sv wx => RelE w base ok g n c xs xs i m e sv wx)
        case first => as_aux_lemma =>
          by_cases q1 : i < m
          · have q1i : (i : Int) < (m : Int) := by omega
            by_cases q2 : m < e
            · have q2i : (m : Int) < (e : Int) := by omega
              have Q1 := Aside0.mk q1
              have Q2 := Aside0.mk q2
              clear q1 q2
              go_wp2_with fail
              go_meet
              exact .mk true rfl (fun _ => ⟨Q1.out, Q2.out⟩) (fun h => by cases h) HR.out
            · have q2i : decide ((m : Int) < (e : Int)) = false := decide_eq_false (by omega)
              have q2j : decide (m < e) = false := decide_eq_false q2
              have Q2 := Aside0.mk (Nat.not_lt.1 q2)
              clear q1 q2
              go_wp2_with fail
              go_meet
              exact .mk false rfl (fun h => by cases h) (fun _ => .inr Q2.out) HR.out
          · have q1i : decide ((i : Int) < (m : Int)) = false := decide_eq_false (by omega)
            have q1j : decide (i < m) = false := decide_eq_false q1
            have Q1 := Aside0.mk (Nat.not_lt.1 q1)
            clear q1
            go_wp2_with fail
            go_meet
            exact .mk false rfl (fun h => by cases h) (fun _ => .inl Q1.out) HR.out
        case rest => as_aux_lemma =>
          clear HR
          obtain ⟨t, rfl, hy, hno, hR⟩ := hcut
          have HY := Aside0.mk hy
          have HNo := Aside0.mk hno
          have HR := Aside0.mk hR
          clear hy hno hR
          go_upto_if 185 with fail
          go_cut [] (fun wx => RelD w base ok g n c xs i m e wx)
          case first => as_aux_lemma =>
            cases t with
            | true =>
              have HCa := Aside0.mk (fun wx (hr : RS w wx base ok g n c xs xs) => rot_calls (.func (.func f) #[] #[]) g c n i m e xs wx base ok hr.row (HY.out (by first | rfl | trivial)).1 (HY.out (by first | rfl | trivial)).2 (by have := HE.out; omega) (by omega))
              go_wp2_with (first | (go_at_call 59; refine (HCa.out _ HR.out).mono ?_; rintro e w4 ⟨rfl, zs, hr4, hs4⟩; have HR4 := Aside0.mk (HR.out.trans hr4); have HS4 := Aside0.mk hs4; clear hr4 hs4) | fail)
              go_meet
              exact .mk zs HR4.out HS4.out
            | false =>
              go_wp2_with fail
              go_meet
              refine .mk xs HR.out ?_
              have := HE.out
              rcases HNo.out (by first | rfl | trivial) with h | h
              · obtain rfl : i = m := by omega
                exact (rot_none1 i e _).symm
              · obtain rfl : m = e := by omega
                exact (rot_none2 i m _).symm
          case rest => as_aux_lemma =>
            clear HR
            obtain ⟨ys, hR, hS⟩ := hcut
            have HR := Aside0.mk hR
            have HS := Aside0.mk hS
            clear hR hS HY HNo
            have HX := Aside0.mk (show ∀ i' j, a ≤ i' → i' < mid → mid ≤ j → j < b → ¬ cf (at_ ys j) (at_ ys i') < 0 by have hE := HE.out; rw [HS.out, ← hE.2.2.2.2.1]; exact sym_cross HP.out H1.out H2.out hE.1 hE.2.1 hE.2.2.1 hE.2.2.2.1 HC1.out HC2.out)
            have HO1 := Aside0.mk (show SrtOn cf (at_ ys) a i by have hE := HE.out; rw [HS.out]; exact sym_one H1.out hE.2.1 hE.2.2.1)
            have HO2 := Aside0.mk (show SrtOn cf (at_ ys) i mid by have hE := HE.out; rw [HS.out, ← hE.2.2.2.2.1]; exact sym_two H2.out hE.2.1 hE.2.2.1 hE.2.2.2.1)
            have HO3 := Aside0.mk (show SrtOn cf (at_ ys) mid e by have hE := HE.out; rw [HS.out, ← hE.2.2.2.2.1]; exact sym_three H1.out hE.1 hE.2.1 hE.2.2.1)
            have HO4 := Aside0.mk (show SrtOn cf (at_ ys) e b by have hE := HE.out; rw [HS.out]; exact sym_four H2.out hE.2.1 hE.2.2.1)
            have HIn := Aside0.mk (show In a b (at_ xs) (at_ ys) by have hE := HE.out; rw [HS.out]; exact (rot_in hE.2.1 hE.2.2.1).wide hE.1 hE.2.2.2.1)
            clear HS HC1 HC2 H1 H2
            go_upto_region 41 with fail
            go_cut [199] (fun sv wx => RelE w base ok g n c xs ys a i mid sv wx)
            case first => as_aux_lemma =>
              by_cases q1 : a < i
              · have q1i : (a : Int) < (i : Int) := by omega
                by_cases q2 : i < mid
                · have q2i : (i : Int) < (mid : Int) := by omega
                  have Q1 := Aside0.mk q1
                  have Q2 := Aside0.mk q2
                  clear q1 q2
                  go_wp2_with fail
                  go_meet
                  exact .mk true rfl (fun _ => ⟨Q1.out, Q2.out⟩) (fun h => by cases h) HR.out
                · have q2i : decide ((i : Int) < (mid : Int)) = false := decide_eq_false (by omega)
                  have q2j : decide (i < mid) = false := decide_eq_false q2
                  have Q2 := Aside0.mk (Nat.not_lt.1 q2)
                  clear q1 q2
                  go_wp2_with fail
                  go_meet
                  exact .mk false rfl (fun h => by cases h) (fun _ => .inr Q2.out) HR.out
              · have q1i : decide ((a : Int) < (i : Int)) = false := decide_eq_false (by omega)
                have q1j : decide (a < i) = false := decide_eq_false q1
                have Q1 := Aside0.mk (Nat.not_lt.1 q1)
                clear q1
                go_wp2_with fail
                go_meet
                exact .mk false rfl (fun h => by cases h) (fun _ => .inl Q1.out) HR.out
            case rest => as_aux_lemma =>
              clear HR
              obtain ⟨t, rfl, hy, hno, hR⟩ := hcut
              have HY := Aside0.mk hy
              have HNo := Aside0.mk hno
              have HR := Aside0.mk hR
              clear hy hno hR
              go_upto_if 199 with fail
              go_cut [] (fun wx => RelF cf w base ok g n c xs ys a mid wx)
              case first => as_aux_lemma =>
                cases t with
                | true =>
                  have HCa := Aside0.mk (fun wx (hr : RS w wx base ok g n c xs ys) => HIH.out a i mid ys wx (by have := HE.out; omega) (HY.out (by first | rfl | trivial)).1 (HY.out (by first | rfl | trivial)).2 (by have := HE.out; omega) hr.row (HCmp.out.next hr) HO1.out HO2.out)
                  go_wp2_with (first | (go_at_call 58; refine (HCa.out _ HR.out).mono ?_; rintro e w4 ⟨rfl, zs, hr4, hi4, hs4⟩; have HR4 := Aside0.mk (HR.out.trans hr4); have HI4 := Aside0.mk hi4; have HS4 := Aside0.mk hs4; clear hr4 hs4 hi4) | fail)
                  go_meet
                  exact .mk zs HR4.out HI4.out HS4.out
                | false =>
                  go_wp2_with fail
                  go_meet
                  refine .mk ys HR.out (In.refl _ _ _) ?_
                  have := HE.out
                  rcases HNo.out (by first | rfl | trivial) with h | h
                  · obtain rfl : a = i := by omega
                    exact HO2.out
                  · obtain rfl : i = mid := by omega
                    exact HO1.out
              case rest => as_aux_lemma =>
                clear HR
                obtain ⟨zs, hR, hIz, hSz⟩ := hcut
                have HR := Aside0.mk hR
                have HIz := Aside0.mk hIz
                have HSz := Aside0.mk hSz
                clear hR hIz hSz HY HNo
                replace HO3 := Aside0.mk (HO3.out.out HIz.out (.inr (Nat.le_refl _)))
                replace HO4 := Aside0.mk (HO4.out.out HIz.out (.inr (by have := HE.out; omega)))
                go_upto_region 43 with fail
                go_cut [213] (fun sv wx => RelE w base ok g n c xs zs mid e b sv wx)
                case first => as_aux_lemma =>
                  by_cases q1 : mid < e
                  · have q1i : (mid : Int) < (e : Int) := by omega
                    by_cases q2 : e < b
                    · have q2i : (e : Int) < (b : Int) := by omega
                      have Q1 := Aside0.mk q1
                      have Q2 := Aside0.mk q2
                      clear q1 q2
                      go_wp2_with fail
                      go_meet
                      exact .mk true rfl (fun _ => ⟨Q1.out, Q2.out⟩) (fun h => by cases h) HR.out
                    · have q2i : decide ((e : Int) < (b : Int)) = false := decide_eq_false (by omega)
                      have q2j : decide (e < b) = false := decide_eq_false q2
                      have Q2 := Aside0.mk (Nat.not_lt.1 q2)
                      clear q1 q2
                      go_wp2_with fail
                      go_meet
                      exact .mk false rfl (fun h => by cases h) (fun _ => .inr Q2.out) HR.out
                  · have q1i : decide ((mid : Int) < (e : Int)) = false := decide_eq_false (by omega)
                    have q1j : decide (mid < e) = false := decide_eq_false q1
                    have Q1 := Aside0.mk (Nat.not_lt.1 q1)
                    clear q1
                    go_wp2_with fail
                    go_meet
                    exact .mk false rfl (fun h => by cases h) (fun _ => .inl Q1.out) HR.out
                case rest => as_aux_lemma =>
                  clear HR
                  obtain ⟨t, rfl, hy, hno, hR⟩ := hcut
                  have HY := Aside0.mk hy
                  have HNo := Aside0.mk hno
                  have HR := Aside0.mk hR
                  clear hy hno hR
                  cases t with
                  | true =>
                    have HCa := Aside0.mk (fun wx (hr : RS w wx base ok g n c xs zs) => HIH.out mid e b zs wx (by have := HE.out; omega) (HY.out (by first | rfl | trivial)).1 (HY.out (by first | rfl | trivial)).2 (by have := HE.out; omega) hr.row (HCmp.out.next hr) HO3.out HO4.out)
                    go_wp2_with (first | (go_at_call 58; refine (HCa.out _ HR.out).mono ?_; rintro e w4 ⟨rfl, us, hr4, hi4, hs4⟩; have HR4 := Aside0.mk (HR.out.trans hr4); have HI4 := Aside0.mk hi4; have HS4 := Aside0.mk hs4; clear hr4 hs4 hi4) | fail)
                    go_end0
                    have HE2 := HE.out
                    have i1 : In a b (at_ ys) (at_ zs) := HIz.out.wide (Nat.le_refl _) (by omega)
                    have i2 : In a b (at_ zs) (at_ us) := HI4.out.wide (by omega) (Nat.le_refl _)
                    have i3 : In a b (at_ xs) (at_ us) := In.trans HIn.out (In.trans i1 i2)
                    have i4 : SrtOn cf (at_ us) a b := sym_done (f := at_ ys) (g := at_ ys) (k := at_ zs) (h := at_ us) HIz.out HSz.out HI4.out HS4.out (fun i j x y z u => by first | exact HX.out i j x y z u | exact Int.not_lt.2 (HX.out i j x y z u))
                    exact ⟨rfl, us, HR4.out, i3, i4⟩
                  | false =>
                    go_wp2_with fail
                    go_end0
                    have HE2 := HE.out
                    have i1 : In a b (at_ ys) (at_ zs) := HIz.out.wide (Nat.le_refl _) (by omega)
                    have i3 : In a b (at_ xs) (at_ zs) := In.trans HIn.out i1
                    refine ⟨rfl, zs, HR.out, i3, ?_⟩
                    refine sym_done (f := at_ ys) (g := at_ ys) (k := at_ zs) (h := at_ zs) HIz.out HSz.out (In.refl mid b (at_ zs)) ?_ (fun i j x y z u => by first | exact HX.out i j x y z u | exact Int.not_lt.2 (HX.out i j x y z u))
                    rcases HNo.out (by first | rfl | trivial) with h | h
                    · obtain rfl : mid = e := by omega
                      exact HO4.out
                    · obtain rfl : e = b := by omega
                      exact HO3.out
theorem sym_all (cf : Q → Q → Int) (hp : Pre cf) (f : FuncId) (fn : Func) (hf : Try.prog.funcs[f]? = some fn) (hname : (fn.name == "runtime.NumGoroutine") = false) (hbody : fn.body.isSome = true) (g c n : Nat) (base : Nat) (ok : Nat → Prop) (hn : n ≤ 1152921504606846976) : ∀ (N a m b : Nat) (xs : List Q) (w : World), b - a < N → a < m → m < b → b ≤ n →
    kq.R 40 w base ok (.slice (some ⟨g, 0, none⟩) n c) xs → CmpOk f cf w g xs → SrtOn cf (at_ xs) a m → SrtOn cf (at_ xs) m b →
    Calls Try.prog 58 #[.slice (some ⟨g, 0, none⟩) n c, .int .i64 a, .int .i64 m, .int .i64 b, .func (.func f) #[] #[]] w fun e w' => e = .returned (.tuple #[]) ∧ ∃ ys, RS w w' base ok g n c xs ys ∧ In a b (at_ xs) (at_ ys) ∧ SrtOn cf (at_ ys) a b
  | 0, a, m, b, xs, w, h, _, _, _, _, _, _, _ => absurd h (Nat.not_lt_zero _)
  | N + 1, a, m, b, xs, w, hN, ham, hmb, hb, hrow, hcmp, h1, h2 => by
    by_cases c1 : m = a + 1
    · exact sym1_calls cf hp f fn hf hname hbody g c n base ok hn a m b xs w hrow hcmp h1 h2 c1 hmb hb
    · by_cases c2 : b = m + 1
      · exact sym2_calls cf hp f fn hf hname hbody g c n base ok hn a m b xs w hrow hcmp h1 h2 (by omega) c2 hb
      · exact sym3_calls cf hp f fn hf hname hbody g c n base ok hn a m b xs w hrow hcmp h1 h2 (by omega) (by omega) hb (fun a' m' b' xs' w' h => sym_all cf hp f fn hf hname hbody g c n base ok hn N a' m' b' xs' w' (by omega))
end Go.Proofs.Ytfeeahjaeapkoaa.Ext
end

section
namespace Go.Proofs.Ytfeeahjaeapkoaa.Ext
set_option linter.unusedVariables false
set_option linter.unusedSimpArgs false
open Go.RowKit Go.Proofs.YtfeeahjaeapkoaaW.PrintWords Go.Proofs.YtfeeahjaeapkoaaW.PrintLast Go.Proofs.YtfeeahjaeapkoaaW.PrintMore Go.Proofs.Ytfeeahjaeapkoaa.Lib
def Blk (cf : Q → Q → Int) (f : Nat → Q) (k h : Nat) : Prop := ∀ q i j, q * k ≤ i → i ≤ j → j < q * k + k → j < h → ¬ cf (f j) (f i) < 0
theorem Blk.on {cf : Q → Q → Int} {f : Nat → Q} {k h : Nat} (hb : Blk cf f k h) (q : Nat) {b : Nat} (h1 : b ≤ q * k + k) (h2 : b ≤ h) : SrtOn cf f (q * k) b := fun i j x y z => hb q i j x y (by omega) (by omega)
theorem Blk.zero (cf : Q → Q → Int) (f : Nat → Q) (k : Nat) : Blk cf f k 0 := fun _ _ _ _ _ _ h => absurd h (Nat.not_lt_zero _)
theorem Blk.one {cf : Q → Q → Int} {f : Nat → Q} {k h : Nat} (hb : Blk cf f k h) (hk : h ≤ k) : SrtOn cf f 0 h := fun i j x y z => hb 0 i j (by omega) y (by omega) z
theorem Blk.next {cf : Q → Q → Int} {f g : Nat → Q} {k a b q : Nat} (ha : a = q * k) (hb : b ≤ a + k) (h : Blk cf f k a) (hi : In a b f g) (hs : SrtOn cf g a b) : Blk cf g k b := fun q2 i j x y z u => by
  rcases Nat.lt_trichotomy q2 q with h1 | h1 | h1
  · have e : q2 * k + k ≤ q * k := by have := Nat.mul_le_mul_right k (show q2 + 1 ≤ q from h1); rwa [Nat.succ_mul] at this
    rw [hi.out i (by omega), hi.out j (by omega)]
    exact h q2 i j x y z (by omega)
  · subst h1; exact hs i j (by omega) y u
  · have e : q * k + k ≤ q2 * k := by have := Nat.mul_le_mul_right k (show q + 1 ≤ q2 from h1); rwa [Nat.succ_mul] at this
    omega
theorem insI_range {cf : Q → Q → Int} (hp : Pre cf) : ∀ (n : Nat) (A t R B : List Q), R.length = n → t.Pairwise (fun y z => ¬ cf y z < 0) → ∃ s : List Q, insI cf A.length n (A.length + t.length) (A ++ t.reverse ++ (R ++ B)) = A ++ s.reverse ++ B ∧ s.Pairwise (fun y z => ¬ cf y z < 0) ∧ s.Perm (R ++ t)
  | 0, A, t, R, B, hR, ht => by
    have e : R = [] := List.eq_nil_of_length_eq_zero hR
    subst e
    exact ⟨t, by rw [insI, List.nil_append], ht, List.Perm.refl _⟩
  | n + 1, A, t, R, B, hR, ht => by
    obtain ⟨x, r, rfl⟩ : ∃ x r, R = x :: r := by
      cases R with
      | nil => cases hR
      | cons x r => exact ⟨x, r, rfl⟩
    have h1 := insJ_rev cf x t A (r ++ B)
    have hl : (insRev cf x t).length = t.length + 1 := by
      have := congrArg List.length h1
      rw [insJ_length] at this
      simp at this
      omega
    have hperm : ∀ t : List Q, (insRev cf x t).Perm (x :: t) := by
      intro t
      induction t with
      | nil => exact List.Perm.refl _
      | cons y t ih =>
        rw [insRev]
        split
        · exact (List.Perm.cons y ih).trans (List.Perm.swap x y t)
        · exact List.Perm.refl _
    obtain ⟨s, h2, h3, h4⟩ := insI_range hp n A (insRev cf x t) r B (by simpa using hR) (insRev_desc hp x t ht)
    refine ⟨s, ?_, h3, h4.trans ((List.Perm.append_left r (hperm t)).trans ?_)⟩
    · rw [insI, show A ++ t.reverse ++ (x :: r ++ B) = A ++ t.reverse ++ x :: (r ++ B) from rfl, h1, show A.length + t.length + 1 = A.length + (insRev cf x t).length by omega]
      exact h2
    · exact List.perm_middle
theorem getD_mid {A M B : List Q} {i : Nat} (h1 : A.length ≤ i) (h2 : i < A.length + M.length) : (A ++ M ++ B).getD i zQ = M.getD (i - A.length) zQ := by
  rw [List.getD_eq_getElem?_getD, List.getElem?_append_left (by rw [List.length_append]; omega), List.getElem?_append_right h1, ← List.getD_eq_getElem?_getD]
theorem getD_out {A M M' B : List Q} {i : Nat} (hl : M.length = M'.length) (h : i < A.length ∨ A.length + M.length ≤ i) : (A ++ M ++ B).getD i zQ = (A ++ M' ++ B).getD i zQ := by
  rw [List.getD_eq_getElem?_getD, List.getD_eq_getElem?_getD]
  by_cases c : i < A.length
  · rw [List.append_assoc, List.append_assoc, List.getElem?_append_left c, List.getElem?_append_left c]
  · rw [List.getElem?_append_right (by rw [List.length_append]; omega), List.getElem?_append_right (by rw [List.length_append]; omega), List.length_append, List.length_append, hl]
theorem ins_range {cf : Q → Q → Int} (hp : Pre cf) (xs : List Q) (a b : Nat) (hab : a ≤ b) (hb : b ≤ xs.length) : In a b (at_ xs) (at_ (insI cf a (b - (a + 1)) (a + 1) xs)) ∧ SrtOn cf (at_ (insI cf a (b - (a + 1)) (a + 1) xs)) a b := by
  by_cases c : b ≤ a + 1
  · rw [show b - (a + 1) = 0 by omega, insI]
    exact ⟨In.refl _ _ _, fun i j x y z => by
      obtain rfl : i = j := by omega
      exact fun h => hp.asym _ _ h h⟩
  · have ha : a < xs.length := by omega
    have e : xs = xs.take a ++ [xs[a]].reverse ++ ((xs.drop (a + 1)).take (b - (a + 1)) ++ xs.drop b) := by
      have e2 : (xs.drop (a + 1)).drop (b - (a + 1)) = xs.drop b := by rw [List.drop_drop, show a + 1 + (b - (a + 1)) = b by omega]
      rw [← e2, List.take_append_drop, List.reverse_singleton, List.append_assoc, List.singleton_append, ← List.drop_eq_getElem_cons ha, List.take_append_drop]
    have hA : (xs.take a).length = a := by rw [List.length_take]; omega
    have hR : ((xs.drop (a + 1)).take (b - (a + 1))).length = b - (a + 1) := by rw [List.length_take, List.length_drop]; omega
    obtain ⟨s, h1, h2, h3⟩ := insI_range hp (b - (a + 1)) (xs.take a) [xs[a]] _ (xs.drop b) hR (List.pairwise_singleton _ _)
    rw [hA, List.length_singleton, ← e] at h1
    have hs : s.length = b - a := by have := h3.length_eq; simp at this; omega
    have e2 : xs = xs.take a ++ (([xs[a]].reverse) ++ (xs.drop (a + 1)).take (b - (a + 1))) ++ xs.drop b := by
      conv => lhs; rw [e]
      simp only [List.append_assoc]
    have hm : (([xs[a]].reverse) ++ (xs.drop (a + 1)).take (b - (a + 1))).length = b - a := by rw [List.length_append, hR]; simp; omega
    have hmem : ∀ z, z ∈ s.reverse → z ∈ (([xs[a]].reverse) ++ (xs.drop (a + 1)).take (b - (a + 1))) := fun z hz => by
      have := h3.mem_iff.1 (List.mem_reverse.1 hz)
      simp at this ⊢
      exact this.symm
    rw [h1]
    generalize ([xs[a]].reverse) ++ (xs.drop (a + 1)).take (b - (a + 1)) = M at *
    generalize xs.take a = A at *
    generalize xs.drop b = B at *
    subst hA
    have hsr : s.reverse.length = b - A.length := by rw [List.length_reverse]; exact hs
    refine ⟨⟨fun i hi => ?_, fun i x y => ?_⟩, fun i j x y z => ?_⟩
    · show (A ++ s.reverse ++ B).getD i zQ = xs.getD i zQ
      rw [e2]
      exact getD_out (by omega) (by omega)
    · have : (A ++ s.reverse ++ B).getD i zQ ∈ M := by
        rw [getD_mid x (by omega)]
        apply hmem
        rw [List.getD_eq_getElem?_getD, List.getElem?_eq_getElem (by omega)]
        exact List.getElem_mem _
      obtain ⟨k, hk, hk2⟩ := List.getElem_of_mem this
      refine ⟨A.length + k, by omega, by omega, ?_⟩
      have r : (A ++ M ++ B).getD (A.length + k) zQ = M[k] := by rw [getD_mid (by omega) (by omega), Nat.add_sub_cancel_left, List.getD_eq_getElem?_getD, List.getElem?_eq_getElem hk]; rfl
      show (A ++ s.reverse ++ B).getD i zQ = xs.getD (A.length + k) zQ
      rw [e2, r]
      exact hk2.symm
    · show ¬ cf ((A ++ s.reverse ++ B).getD j zQ) ((A ++ s.reverse ++ B).getD i zQ) < 0
      rw [getD_mid (by omega) (by omega), getD_mid x (by omega)]
      by_cases e3 : i = j
      · subst e3; exact fun h => hp.asym _ _ h h
      · have hpw : s.reverse.Pairwise (fun x y => ¬ cf y x < 0) := by rw [List.pairwise_reverse]; exact h2
        have := List.pairwise_iff_getElem.1 hpw (i - A.length) (j - A.length) (by omega) (by omega) (by omega)
        rw [List.getD_eq_getElem?_getD, List.getElem?_eq_getElem (by omega), List.getD_eq_getElem?_getD, List.getElem?_eq_getElem (by omega)]
        exact this
end Go.Proofs.Ytfeeahjaeapkoaa.Ext
end

section
namespace Go.Proofs.Ytfeeahjaeapkoaa.Ext
set_option linter.unusedVariables false
set_option linter.unusedSimpArgs false
open Go.RowKit Go.Proofs.YtfeeahjaeapkoaaW.PrintWords Go.Proofs.YtfeeahjaeapkoaaW.PrintLast Go.Proofs.YtfeeahjaeapkoaaW.PrintMore Go.Proofs.Ytfeeahjaeapkoaa.Lib
inductive RelS (cf : Q → Q → Int) (w : World) (base : Nat) (ok : Nat → Prop) (g n c : Nat) (xs : List Q) (k : Nat) (v1 v2 : Value) (w' : World) : Prop
  | mk (q a b : Nat) (ys : List Q) (e1 : v1 = .int .i64 a) (e2 : v2 = .int .i64 b) (ha : a = q * k) (hb : b = a + k) (hn : a ≤ n) (hrs : RS w w' base ok g n c xs ys) (hd : Blk cf (at_ ys) k a)
def Rest (cf : Q → Q → Int) (f : Nat → Q) (a k n : Nat) : Prop := ∀ p i j, a ≤ i → p * k ≤ i → i ≤ j → j < p * k + k → j < n → ¬ cf (f j) (f i) < 0
inductive RelM (cf : Q → Q → Int) (w : World) (base : Nat) (ok : Nat → Prop) (g n c : Nat) (xs : List Q) (k0 k2 : Nat) (v1 v2 : Value) (w' : World) : Prop
  | mk (q a b : Nat) (ys : List Q) (e1 : v1 = .int .i64 a) (e2 : v2 = .int .i64 b) (ha : a = q * k2) (hb : b = a + k2) (hn : a ≤ n) (hrs : RS w w' base ok g n c xs ys) (hd : Blk cf (at_ ys) k2 a) (ho : Rest cf (at_ ys) a k0 n)
inductive RelO (cf : Q → Q → Int) (w : World) (base : Nat) (ok : Nat → Prop) (g n c : Nat) (xs : List Q) (v1 : Value) (w' : World) : Prop
  | mk (k : Nat) (ys : List Q) (e1 : v1 = .int .i64 k) (hk : 20 ≤ k) (hk2 : k ≤ 2 * n + 20) (hrs : RS w w' base ok g n c xs ys) (hd : Blk cf (at_ ys) k n)
theorem two_k (q k : Nat) : q * (2 * k) = 2 * q * k := by rw [← Nat.mul_assoc, Nat.mul_comm q 2]
theorem succ_k (q k : Nat) : (q + 1) * k = q * k + k := Nat.succ_mul q k
theorem merge_first {cf : Q → Q → Int} {f : Nat → Q} {q a k n : Nat} (ha : a = q * (2 * k)) (hn : a + k ≤ n) (ho : Rest cf f a k n) : SrtOn cf f a (a + k) := fun i j x y z => ho (2 * q) i j x (by rw [← two_k, ← ha]; exact x) y (by rw [← two_k, ← ha]; exact z) (by omega)
theorem merge_second {cf : Q → Q → Int} {f : Nat → Q} {q a b k n : Nat} (ha : a = q * (2 * k)) (hb : b ≤ a + 2 * k) (hn : b ≤ n) (ho : Rest cf f a k n) : SrtOn cf f (a + k) b := fun i j x y z => ho (2 * q + 1) i j (by omega) (by rw [succ_k, ← two_k, ← ha]; exact x) y (by rw [succ_k, ← two_k, ← ha]; omega) (by omega)
theorem merge_last {cf : Q → Q → Int} {f : Nat → Q} {q a k n : Nat} (ha : a = q * (2 * k)) (hn : n ≤ a + k) (ho : Rest cf f a k n) : SrtOn cf f a n := fun i j x y z => ho (2 * q) i j x (by rw [← two_k, ← ha]; exact x) y (by rw [← two_k, ← ha]; omega) z
theorem merge_rest {cf : Q → Q → Int} {f g : Nat → Q} {a b k n : Nat} (h : In a b f g) (ho : Rest cf f a k n) (hab : a ≤ b)   : Rest cf g b k n := fun p i j x y z u v => by
  rw [h.out i (.inr x), h.out j (.inr (by omega))]; exact ho p i j (by omega) y z u v
set_option maxRecDepth 100000 in
set_option maxHeartbeats 3200000 in
theorem stable_all (cf : Q → Q → Int) (hp : Pre cf) (f : FuncId) (fn : Func) (hf : Try.prog.funcs[f]? = some fn) (hname : (fn.name == "runtime.NumGoroutine") = false) (hbody : fn.body.isSome = true) (g c n : Nat) (base : Nat) (ok : Nat → Prop) (hn : n ≤ 1152921504606846976) (xs : List Q) (w : World)
    (hrow : kq.R 40 w base ok (.slice (some ⟨g, 0, none⟩) n c) xs) (hcmp : CmpOk f cf w g xs) :
    Calls Try.prog 52 #[.slice (some ⟨g, 0, none⟩) n c, .int .i64 n, .func (.func f) #[] #[]] w fun e w' => e = .returned (.tuple #[]) ∧ ∃ ys, RS w w' base ok g n c xs ys ∧ SrtOn cf (at_ ys) 0 n := by
  have HCmp := Aside0.mk hcmp
  have HP := Aside0.mk hp
  have HR := Aside0.mk (RS.refl hrow)
  have HIns := Aside0.mk (fun (a b : Nat) (ys : List Q) (w' : World) (hr : RS w w' base ok g n c xs ys) (hab : a ≤ b) (hb : b ≤ n) => ins_calls cf f fn hf hname hbody g c n a b ys w' base ok hr.row hab hb hn (hcmp.next hr) (RS.refl hr.row).grown)
  have HSym := Aside0.mk (fun (a m b : Nat) (ys : List Q) (w' : World) (hr : RS w w' base ok g n c xs ys) (ham : a < m) (hmb : m < b) (hb : b ≤ n) (h1 : SrtOn cf (at_ ys) a m) (h2 : SrtOn cf (at_ ys) m b) => sym_all cf hp f fn hf hname hbody g c n base ok hn (b - a + 1) a m b ys w' (by omega) ham hmb hb hr.row (hcmp.next hr) h1 h2)
  clear hf hname hbody hcmp hrow hp
  go_enter Try.func52, Try.ntmps52
  go_wp2_with fail
  go_loopw [7, 8] (fun v7 v8 w' => RelS cf w base ok g n c xs 20 v7 v8 w') (fun v7 _ _ => n - (intOf v7).toNat)
  case atStart => exact .mk 0 0 20 xs rfl rfl rfl rfl (Nat.zero_le _) HR.out (Blk.zero _ _ _)
  case round =>
    clear HR
    obtain ⟨q, a, b, ys, rfl, rfl, ha, hb, han, hR, hD⟩ := hrel
    have HR := Aside0.mk hR
    have HD := Aside0.mk hD
    have HA := Aside0.mk ha
    have HB := Aside0.mk hb
    clear hR hD ha hb
    by_cases hc : b ≤ n
    · have hci : (b : Int) ≤ (n : Int) := by omega
      have HC := Aside0.mk hc
      go_wp2_with (first | (go_at_call 57; refine (HIns.out a b ys _ HR.out (by have := HB.out; omega) HC.out).mono ?_; rintro e w4 ⟨rfl, hr4⟩; have HR4 := Aside0.mk (HR.out.trans hr4); clear hr4) | fail)
      go_roundw
      case rel => exact .mk (q + 1) b (b + 20) _ rfl (by go_num) (by have := HA.out; have := HB.out; omega) rfl HC.out HR4.out (by
        have hi := ins_range HP.out ys a b (by have := HB.out; omega) (by rw [HR.out.len]; exact HC.out)
        exact Blk.next HA.out (by have := HB.out; omega) HD.out hi.1 hi.2)
      case measure => have := HB.out; simp [intOf]; omega
    · have hci : decide ((b : Int) ≤ (n : Int)) = false := decide_eq_false (by omega)
      have hcj : decide (b ≤ n) = false := decide_eq_false hc
      have HC := Aside0.mk hc
      have hck : (n : Int) < (b : Int) := by omega
      clear hc
      go_wp2_with (first | (go_at_call 57; refine (HIns.out a n ys _ HR.out han (Nat.le_refl _)).mono ?_; rintro e w4 ⟨rfl, hr4⟩; have HR4 := Aside0.mk (HR.out.trans hr4); clear hr4) | fail)
      have HD4 := Aside0.mk (show Blk cf (at_ (insI cf a (n - (a + 1)) (a + 1) ys)) 20 n by
        have hi := ins_range HP.out ys a n han (by rw [HR.out.len]; exact Nat.le_refl _)
        exact Blk.next HA.out (by have := HB.out; have := HC.out; omega) HD.out hi.1 hi.2)
      clear hci hcj hck HR HD HA HB HC han
      generalize insI cf a (n - (a + 1)) (a + 1) ys = zs at *
      go_wp2_with fail
      go_loopw [6] (fun v6 w' => RelO cf w base ok g n c xs v6 w') (fun v6 _ => n - (intOf v6).toNat)
      case atStart => exact .mk 20 zs rfl (Nat.le_refl _) (by omega) HR4.out HD4.out
      case round => as_aux_lemma =>
        clear HR4 HD4
        obtain ⟨k, us, rfl, hk20, hk2n, hR, hD⟩ := hrel
        have HR := Aside0.mk hR
        have HD := Aside0.mk hD
        clear hR hD
        by_cases hkn : k < n
        · have hkn2 : (k : Int) < (n : Int) := by omega
          obtain ⟨k2, hk2⟩ : ∃ x, x = 2 * k := ⟨_, rfl⟩
          have HK2 := Aside0.mk hk2
          have e1 : 2 * (k : Int) = (k2 : Int) := by omega
          have e2 : (k : Int) * 2 = (k2 : Int) := by omega
          have hk3 : k2 ≤ 2305843009213693952 := by omega
          have HO := Aside0.mk (show Rest cf (at_ us) 0 k n from fun p i j _ y z u v => HD.out p i j y z u v)
          clear hk2
          go_wp2_with fail
          go_loopw [7, 8] (fun v7 v8 w' => RelM cf w base ok g n c xs k k2 v7 v8 w') (fun v7 _ _ => n - (intOf v7).toNat)
          case atStart => exact .mk 0 0 k2 us rfl rfl (Nat.zero_mul _).symm (Nat.zero_add _).symm (Nat.zero_le _) HR.out (Blk.zero _ _ _) HO.out
          case round => as_aux_lemma =>
            clear HR HD HO
            obtain ⟨q, a, b, ys, rfl, rfl, ha, hb, han, hR, hD, hO⟩ := hrel
            have HR := Aside0.mk hR
            have HD := Aside0.mk hD
            have HO := Aside0.mk hO
            have HA := Aside0.mk (show a = q * (2 * k) by rw [← HK2.out]; exact ha)
            have HA0 := Aside0.mk ha
            have HB := Aside0.mk hb
            obtain ⟨m, hm⟩ : ∃ x, x = a + k := ⟨_, rfl⟩
            have HM := Aside0.mk hm
            have em : (a : Int) + (k : Int) = (m : Int) := by omega
            have HBn := Aside0.mk (show b ≤ 4611686018427387904 by omega)
            clear hR hD hO ha hb hm
            by_cases hc : b ≤ n
            · have hci : (b : Int) ≤ (n : Int) := by omega
              have HC := Aside0.mk hc
              have HS := Aside0.mk (fun wx (hr : RS w wx base ok g n c xs ys) => HSym.out a m b ys wx hr (by have := HM.out; omega) (by have := HM.out; have := HB.out; have := HK2.out; omega) HC.out (by rw [HM.out]; exact merge_first HA.out (by have := HB.out; have := HK2.out; have := HC.out; omega) HO.out) (by rw [HM.out]; exact merge_second HA.out (by have := HB.out; have := HK2.out; omega) HC.out HO.out))
              go_wp2_with (first | (go_at_call 58; refine (HS.out _ HR.out).mono ?_; rintro e w4 ⟨rfl, zs, hr4, hi4, hs4⟩; have HR4 := Aside0.mk (HR.out.trans hr4); have HI4 := Aside0.mk hi4; have HS4 := Aside0.mk hs4; clear hr4 hi4 hs4) | fail)
              go_roundw
              case rel => exact .mk (q + 1) b (b + k2) zs rfl (by first | rfl | go_num) (by rw [Nat.succ_mul, ← HA0.out]; exact HB.out) rfl HC.out HR4.out (Blk.next HA0.out (by have := HB.out; omega) HD.out HI4.out HS4.out) (merge_rest HI4.out HO.out (by have := HB.out; omega))
              case measure => have := HB.out; have := HK2.out; simp [intOf]; omega
            · have hci : decide ((b : Int) ≤ (n : Int)) = false := decide_eq_false (by omega)
              have hcj : decide (b ≤ n) = false := decide_eq_false hc
              have HC := Aside0.mk hc
              have hck : (n : Int) < (b : Int) := by omega
              clear hc
              by_cases hd : m < n
              · have hdi : (m : Int) < (n : Int) := by omega
                have HDd := Aside0.mk hd
                have HS := Aside0.mk (fun wx (hr : RS w wx base ok g n c xs ys) => HSym.out a m n ys wx hr (by have := HM.out; omega) HDd.out (Nat.le_refl _) (by rw [HM.out]; exact merge_first HA.out (by have := HM.out; have := HDd.out; omega) HO.out) (by rw [HM.out]; exact merge_second HA.out (by have := HB.out; have := HK2.out; have := HC.out; omega) (Nat.le_refl _) HO.out))
                go_wp2_with (first | (go_at_call 58; refine (HS.out _ HR.out).mono ?_; rintro e w4 ⟨rfl, zs, hr4, hi4, hs4⟩; have HR4 := Aside0.mk (HR.out.trans hr4); have HI4 := Aside0.mk hi4; have HS4 := Aside0.mk hs4; clear hr4 hi4 hs4) | fail)
                go_roundw
                case rel => exact .mk k2 zs (by first | rfl | go_num) (by have := HK2.out; omega) (by have := HK2.out; omega) HR4.out (Blk.next HA0.out (by have := HB.out; have := HC.out; omega) HD.out HI4.out HS4.out)
                case measure => have := HK2.out; simp [intOf]; omega
              · have hdi : decide ((m : Int) < (n : Int)) = false := decide_eq_false (by omega)
                have hdj : decide (m < n) = false := decide_eq_false hd
                have HDd := Aside0.mk hd
                have hdk : (n : Int) ≤ (m : Int) := by omega
                clear hd
                go_wp2_with fail
                go_roundw
                case rel => exact .mk k2 ys (by first | rfl | go_num) (by have := HK2.out; omega) (by have := HK2.out; omega) HR.out (Blk.next HA0.out (by have := HB.out; have := HC.out; omega) HD.out (In.refl _ _ _) (merge_last HA.out (by have := HM.out; have := HDd.out; omega) HO.out))
                case measure => have := HK2.out; simp [intOf]; omega
        · have hkn2 : decide ((k : Int) < (n : Int)) = false := decide_eq_false (by omega)
          have hkn3 : decide (k < n) = false := decide_eq_false hkn
          have HKn := Aside0.mk hkn
          have hkn4 : (n : Int) ≤ (k : Int) := by omega
          clear hkn
          go_wp2_with fail
          go_end0
          exact ⟨rfl, us, HR.out, HD.out.one (by have := HKn.out; omega)⟩
theorem srt_pw {cf : Q → Q → Int} : ∀ {ys : List Q}, SrtOn cf (at_ ys) 0 ys.length → ys.Pairwise (fun x y => ¬ cf y x < 0) := fun {ys} h => by
  rw [List.pairwise_iff_getElem]
  intro i j hi hj hij
  have := h i j (Nat.zero_le _) (Nat.le_of_lt hij) hj
  have e : ∀ (k : Nat) (hk : k < ys.length), at_ ys k = ys[k] := fun k hk => by show ys.getD k zQ = _; rw [List.getD_eq_getElem?_getD, List.getElem?_eq_getElem hk]; rfl
  rwa [e i hi, e j hj] at this
set_option maxRecDepth 100000 in
set_option maxHeartbeats 400000 in
theorem sort_all (cf : Q → Q → Int) (hp : Pre cf) (f : FuncId) (fn : Func) (hf : Try.prog.funcs[f]? = some fn) (hname : (fn.name == "runtime.NumGoroutine") = false) (hbody : fn.body.isSome = true) (g c n : Nat) (xs : List Q) (w : World) (base : Nat) (ok : Nat → Prop)
    (hrow : kq.R 40 w base ok (.slice (some ⟨g, 0, none⟩) n c) xs) (hn : n ≤ 1152921504606846976) (hcmp : CmpOk f cf w g xs) :
    Calls Try.prog 45 #[.slice (some ⟨g, 0, none⟩) n c, .func (.func f) #[] #[]] w fun e w' => e = .returned (.tuple #[]) ∧ ∃ zs, RS w w' base ok g n c xs zs ∧ zs.Pairwise (fun x y => ¬ cf y x < 0) := by
  have HI := Aside0.mk (stable_all cf hp f fn hf hname hbody g c n base ok hn xs w hrow hcmp)
  clear hf hname hbody hrow hcmp hp
  go_enter Try.func45, Try.ntmps45
  go_wp2_with fail
  refine HI.out.mono ?_
  rintro e w2 ⟨rfl, zs, hr, hs⟩
  have HR := Aside0.mk hr
  have HS := Aside0.mk hs
  clear hr hs HI
  go_wp2_with fail
  go_end0
  exact ⟨rfl, zs, HR.out, (srt_pw (by rw [HR.out.len]; exact HS.out)).imp (fun h => Int.not_lt.1 h)⟩
end Go.Proofs.Ytfeeahjaeapkoaa.Ext
end

section
namespace Go.Proofs.Ytfeeahjaeapkoaa.Ext
def sortK : Nat := 1099511627776
theorem sortK_le : sortK ≤ 1099511627776 := Nat.le_refl _
theorem sort_ok : SortUpto sortK := fun cf hp f fn hf hname hbody g c n xs w base ok hrow hn hcmp => sort_all cf hp f fn hf hname hbody g c n xs w base ok hrow (Nat.le_trans hn (by decide)) hcmp
end Go.Proofs.Ytfeeahjaeapkoaa.Ext
end

section
namespace Go.Proofs.Ytfeeahjaeapkoaa.P
set_option linter.unusedVariables false
set_option linter.unusedSimpArgs false
open Go.RowKit Go.Proofs.YtfeeahjaeapkoaaW.PrintWords Go.Proofs.YtfeeahjaeapkoaaW.PrintLast Go.Proofs.YtfeeahjaeapkoaaW.PrintMore Go.Proofs.Ytfeeahjaeapkoaa.Lib Go.Proofs.Ytfeeahjaeapkoaa.Ext
def small27 (x : S27) : Bool := decide (x.f1.length ≤ 8796093022208) && decide (x.f2.length ≤ 17592186044416)
def fact_Bag.f (l0 : List (S27)) : Option (List (S40)) := if l0.length ≤ sortK ∧ l0.all small27 = true then some ((bagOf (l0.map m27)).map s40) else none
theorem fact_Bag.calls (A0 : Option Addr) (c0 : Nat) (l0 : List (S27)) (r : List (S40)) (w : World) (hr0 : Kd.C k27 w A0 l0.length l0) (hc0 : l0.length ≤ c0) (h : fact_Bag.f l0 = some r) :
    Calls Try.prog 16 #[.slice A0 l0.length c0] w fun e w' => ∃ v0_ : Value, e = .returned v0_ ∧ Kd.R k40 40 w' w.heap.size (fun _ => True) v0_ r ∧ Below w.heap.size w w' := by
  unfold fact_Bag.f at h
  split at h
  · rename_i hh
    injection h with h
    subst h
    exact Bag_calls sortK sortK_le sort_ok _ c0 A0 l0 w hr0 hh.1 (fun x hx => by
      have := List.all_eq_true.1 hh.2 x hx
      unfold small27 at this
      simp only [Bool.and_eq_true, decide_eq_true_eq] at this
      exact this)
  · cases h
end Go.Proofs.Ytfeeahjaeapkoaa.P
end

section
namespace Go.Proofs.Ytfeeahjaeapkoaa.P
open Go.RowKit Go.Proofs.YtfeeahjaeapkoaaW.PrintWords Go.Proofs.YtfeeahjaeapkoaaW.PrintLast Go.Proofs.YtfeeahjaeapkoaaW.PrintMore
attribute [local go_sem] max2_int min2_int max_two min_two max_three min_three max_four min_four   -- for this text's walks alone
set_option linter.unusedVariables false
set_option linter.unusedSimpArgs false
open Go.Proofs.Ytfeeahjaeapkoaa.Ext (q1_ q2_ q3_ bk_ bw_ sz_ ne_ bx_)
attribute [local go_sem high] Go.Proofs.Ytfeeahjaeapkoaa.Ext.gtr_str Go.Proofs.Ytfeeahjaeapkoaa.Ext.leq_str Go.Proofs.Ytfeeahjaeapkoaa.Ext.geq_str
def fact_Fine.f (a0_0 : Int) (a0_1 : Int) : Option (Int) := if a0_0 < 0 then (some 1) else (if a0_0 > 8 then (some 1) else (if a0_1 < 0 then (some 1) else (if a0_1 > 8 then (some 1) else (some 0))))
set_option maxHeartbeats 8000000 in
set_option maxRecDepth 100000 in
theorem fact_Fine.calls (a0_0 : Int) (a0_1 : Int) (r : Int) (w : World) (h : fact_Fine.f a0_0 a0_1 = some r) :
  Calls Try.prog 11 #[.agg #[.int .i64 a0_0, .int .i64 a0_1]] w fun e w' => e = .returned (.int .i64 r) ∧ Below w.heap.size w w' := by
 have hu23 := Try.underlying23
 have HB := Aside0.mk (Below.refl w.heap.size w)
 have H : (if a0_0 < 0 then (some 1) else (if a0_0 > 8 then (some 1) else (if a0_1 < 0 then (some 1) else (if a0_1 > 8 then (some 1) else (some 0))))) = some r := h
 clear h
 by_cases c2 : a0_0 < 0
 ·rw [if_pos c2] at H
  have c2b0 : decide (a0_0 < 0) = true := decide_eq_true c2
  clear c2
  obtain rfl := Option.some.inj H
  go_enter Try.func11, Try.ntmps11
  go_wp2_with (first | ((with_reducible refine gate_dst (N := 1) rfl ?_); refine bx_ (N := 1) (cs := #[.int .i64 a0_0, .int .i64 a0_1]) (t := 23) ?_; intro gb102 hg w3 hbox hb; have n0_ := Aside0.mk (below_step (bw_ HB.out) hb); have n1_ := Aside0.mk (hbox); have n2_ := Aside0.mk (sz_ hg (bw_ HB.out)); have n3_ := n2_; clear HB; have HB := n0_; have BK102 := n1_; have GW102 := n2_; have GE102 := n3_; clear n0_ n1_ n2_ n3_; clear hb hbox hg; have hcz4_0 : w3.cell? ⟨gb102, 0, none⟩ = some (.int .i64 a0_0) := (blk_cell BK102.out 0).trans rfl; have hcz4_1 : w3.cell? ⟨gb102, 1, none⟩ = some (.int .i64 a0_1) := (blk_cell BK102.out 1).trans rfl; have hfz4_0 := blk_frozen BK102.out 0; have hfz4_1 := blk_frozen BK102.out 1))
  go_ret
  exact ⟨by first | rfl | (simp [errW_none, errW_some] <;> rfl) | (simp [*, errW_none, errW_some] <;> rfl), by repeat (first | (with_reducible first | exact HB.out | apply below_alloc | apply pw_below_drewN | apply below_drew1 | refine below_set ?_ GE102.out) | exact HB.out)⟩
 ·rw [if_neg c2] at H
  have c2b0 : decide (a0_0 < 0) = false := decide_eq_false c2
  clear c2
  by_cases c5 : a0_0 > 8
  ·rw [if_pos c5] at H
   have c5b0 : decide (8 < a0_0) = true := decide_eq_true c5
   clear c5
   obtain rfl := Option.some.inj H
   go_enter Try.func11, Try.ntmps11
   go_wp2_with (first | ((with_reducible refine gate_dst (N := 1) rfl ?_); refine bx_ (N := 1) (cs := #[.int .i64 a0_0, .int .i64 a0_1]) (t := 23) ?_; intro gb102 hg w6 hbox hb; have n0_ := Aside0.mk (below_step (bw_ HB.out) hb); have n1_ := Aside0.mk (hbox); have n2_ := Aside0.mk (sz_ hg (bw_ HB.out)); have n3_ := n2_; clear HB; have HB := n0_; have BK102 := n1_; have GW102 := n2_; have GE102 := n3_; clear n0_ n1_ n2_ n3_; clear hb hbox hg; have hcz7_0 : w6.cell? ⟨gb102, 0, none⟩ = some (.int .i64 a0_0) := (blk_cell BK102.out 0).trans rfl; have hcz7_1 : w6.cell? ⟨gb102, 1, none⟩ = some (.int .i64 a0_1) := (blk_cell BK102.out 1).trans rfl; have hfz7_0 := blk_frozen BK102.out 0; have hfz7_1 := blk_frozen BK102.out 1))
   go_ret
   exact ⟨by first | rfl | (simp [errW_none, errW_some] <;> rfl) | (simp [*, errW_none, errW_some] <;> rfl), by repeat (first | (with_reducible first | exact HB.out | apply below_alloc | apply pw_below_drewN | apply below_drew1 | refine below_set ?_ GE102.out) | exact HB.out)⟩
  ·rw [if_neg c5] at H
   have c5b0 : decide (8 < a0_0) = false := decide_eq_false c5
   clear c5
   by_cases c8 : a0_1 < 0
   ·rw [if_pos c8] at H
    have c8b0 : decide (a0_1 < 0) = true := decide_eq_true c8
    clear c8
    obtain rfl := Option.some.inj H
    go_enter Try.func11, Try.ntmps11
    go_wp2_with (first | ((with_reducible refine gate_dst (N := 1) rfl ?_); refine bx_ (N := 1) (cs := #[.int .i64 a0_0, .int .i64 a0_1]) (t := 23) ?_; intro gb102 hg w9 hbox hb; have n0_ := Aside0.mk (below_step (bw_ HB.out) hb); have n1_ := Aside0.mk (hbox); have n2_ := Aside0.mk (sz_ hg (bw_ HB.out)); have n3_ := n2_; clear HB; have HB := n0_; have BK102 := n1_; have GW102 := n2_; have GE102 := n3_; clear n0_ n1_ n2_ n3_; clear hb hbox hg; have hcz10_0 : w9.cell? ⟨gb102, 0, none⟩ = some (.int .i64 a0_0) := (blk_cell BK102.out 0).trans rfl; have hcz10_1 : w9.cell? ⟨gb102, 1, none⟩ = some (.int .i64 a0_1) := (blk_cell BK102.out 1).trans rfl; have hfz10_0 := blk_frozen BK102.out 0; have hfz10_1 := blk_frozen BK102.out 1))
    go_ret
    exact ⟨by first | rfl | (simp [errW_none, errW_some] <;> rfl) | (simp [*, errW_none, errW_some] <;> rfl), by repeat (first | (with_reducible first | exact HB.out | apply below_alloc | apply pw_below_drewN | apply below_drew1 | refine below_set ?_ GE102.out) | exact HB.out)⟩
   ·rw [if_neg c8] at H
    have c8b0 : decide (a0_1 < 0) = false := decide_eq_false c8
    clear c8
    by_cases c11 : a0_1 > 8
    ·rw [if_pos c11] at H
     have c11b0 : decide (8 < a0_1) = true := decide_eq_true c11
     clear c11
     obtain rfl := Option.some.inj H
     go_enter Try.func11, Try.ntmps11
     go_wp2_with (first | ((with_reducible refine gate_dst (N := 1) rfl ?_); refine bx_ (N := 1) (cs := #[.int .i64 a0_0, .int .i64 a0_1]) (t := 23) ?_; intro gb102 hg w12 hbox hb; have n0_ := Aside0.mk (below_step (bw_ HB.out) hb); have n1_ := Aside0.mk (hbox); have n2_ := Aside0.mk (sz_ hg (bw_ HB.out)); have n3_ := n2_; clear HB; have HB := n0_; have BK102 := n1_; have GW102 := n2_; have GE102 := n3_; clear n0_ n1_ n2_ n3_; clear hb hbox hg; have hcz13_0 : w12.cell? ⟨gb102, 0, none⟩ = some (.int .i64 a0_0) := (blk_cell BK102.out 0).trans rfl; have hcz13_1 : w12.cell? ⟨gb102, 1, none⟩ = some (.int .i64 a0_1) := (blk_cell BK102.out 1).trans rfl; have hfz13_0 := blk_frozen BK102.out 0; have hfz13_1 := blk_frozen BK102.out 1))
     go_ret
     exact ⟨by first | rfl | (simp [errW_none, errW_some] <;> rfl) | (simp [*, errW_none, errW_some] <;> rfl), by repeat (first | (with_reducible first | exact HB.out | apply below_alloc | apply pw_below_drewN | apply below_drew1 | refine below_set ?_ GE102.out) | exact HB.out)⟩
    ·rw [if_neg c11] at H
     have c11b0 : decide (8 < a0_1) = false := decide_eq_false c11
     clear c11
     obtain rfl := Option.some.inj H
     go_enter Try.func11, Try.ntmps11
     go_wp2_with (first | ((with_reducible refine gate_dst (N := 1) rfl ?_); refine bx_ (N := 1) (cs := #[.int .i64 a0_0, .int .i64 a0_1]) (t := 23) ?_; intro gb102 hg w14 hbox hb; have n0_ := Aside0.mk (below_step (bw_ HB.out) hb); have n1_ := Aside0.mk (hbox); have n2_ := Aside0.mk (sz_ hg (bw_ HB.out)); have n3_ := n2_; clear HB; have HB := n0_; have BK102 := n1_; have GW102 := n2_; have GE102 := n3_; clear n0_ n1_ n2_ n3_; clear hb hbox hg; have hcz15_0 : w14.cell? ⟨gb102, 0, none⟩ = some (.int .i64 a0_0) := (blk_cell BK102.out 0).trans rfl; have hcz15_1 : w14.cell? ⟨gb102, 1, none⟩ = some (.int .i64 a0_1) := (blk_cell BK102.out 1).trans rfl; have hfz15_0 := blk_frozen BK102.out 0; have hfz15_1 := blk_frozen BK102.out 1))
     go_ret
     exact ⟨by first | rfl | (simp [errW_none, errW_some] <;> rfl) | (simp [*, errW_none, errW_some] <;> rfl), by repeat (first | (with_reducible first | exact HB.out | apply below_alloc | apply pw_below_drewN | apply below_drew1 | refine below_set ?_ GE102.out) | exact HB.out)⟩
end Go.Proofs.Ytfeeahjaeapkoaa.P
end

section
namespace Go.Proofs.Ytfeeahjaeapkoaa.P
set_option linter.unusedVariables false
set_option linter.unusedSimpArgs false
open Go.RowKit Go.Proofs.YtfeeahjaeapkoaaW.PrintWords Go.Proofs.YtfeeahjaeapkoaaW.PrintLast Go.Proofs.YtfeeahjaeapkoaaW.PrintMore Go.Proofs.Ytfeeahjaeapkoaa.Lib
set_option maxRecDepth 100000 in
set_option maxHeartbeats 400000 in
theorem long_word (s : ByteArray) (w : World) :
    Calls Try.prog 27 #[.string s] w fun e w' => e = .returned (.bool (decide (64 < s.size))) ∧ w = w' := by
  by_cases h : 64 < s.size
  · have h2 : decide (64 < s.size) = true := decide_eq_true h
    rw [h2]
    have h3 : decide ((64 : Int) < (s.size : Int)) = true := decide_eq_true (by omega)
    clear h h2
    go_enter Try.func27, Try.ntmps27
    go_wp2_with fail
    go_ret
    exact ⟨rfl, rfl⟩
  · have h2 : decide (64 < s.size) = false := decide_eq_false h
    rw [h2]
    have h3 : decide ((64 : Int) < (s.size : Int)) = false := decide_eq_false (by omega)
    clear h h2
    go_enter Try.func27, Try.ntmps27
    go_wp2_with fail
    go_ret
    exact ⟨rfl, rfl⟩
def tooLong (ts : List ByteArray) : Bool := ts.any fun t => decide (64 < t.size)
set_option maxRecDepth 100000 in
set_option maxHeartbeats 400000 in
theorem index_long (ts : List ByteArray) (A : Option Addr) (n c : Nat) (w : World) (hC : Kd.C Kd.string w A n ts) :
    Calls Try.prog 41 #[.slice A n c, .func (.func 27) #[] #[]] w fun e w' => (∃ k : Int, e = .returned (.int .i64 k) ∧ decide (0 ≤ k) = tooLong ts) ∧ w = w' := by
  have HC := Aside0.mk hC
  have HLen := Aside0.mk (show ts.length = n from hC.1)
  have hn := hC.2.1
  clear hC
  go_enter Try.func41, Try.ntmps41
  go_wp2_with fail
  go_loop [8] (fun kv => ∃ k : Nat, k ≤ n ∧ kv = .int .i64 k ∧ Aside0 (tooLong (ts.take k) = false)) (fun kv => n - (intOf kv).toNat)
  case atStart => exact ⟨0, Nat.zero_le _, rfl, ⟨by simp [tooLong]⟩⟩
  case round =>
    obtain ⟨k, hk, rfl, HT⟩ := hrel
    by_cases hlt : k < n
    · obtain ⟨ad, e, hcell⟩ := Kd.at_string HC.out (k : Int) (by omega) (by omega)
      subst e
      rw [Int.toNat_natCast] at hcell
      have HL := Aside0.mk (show tooLong (ts.take (k + 1)) = decide (64 < (rdOf ByteArray.empty ts (k : Int)).size) by
        rw [List.take_succ_eq_append_getElem (by rw [HLen.out]; exact hlt)]
        have h := HT.out
        unfold tooLong at h ⊢
        rw [List.any_append, h]
        unfold rdOf
        rw [Int.toNat_natCast, List.getD_eq_getElem?_getD, List.getElem?_eq_getElem (by rw [HLen.out]; exact hlt)]
        simp)
      have HA := Aside0.mk (show tooLong (ts.take (k + 1)) = true → tooLong ts = true by
        unfold tooLong
        intro h
        rw [List.any_eq_true] at h ⊢
        obtain ⟨x, hx, h⟩ := h
        exact ⟨x, List.mem_of_mem_take hx, h⟩)
      generalize rdOf ByteArray.empty ts (k : Int) = s at *
      go_wp2_with fail
      refine (long_word s w).mono ?_
      rintro e w1 ⟨rfl, rfl⟩
      rw [← HL.out]
      obtain ⟨b, hb⟩ : ∃ b, tooLong (ts.take (k + 1)) = b := ⟨_, rfl⟩
      rw [hb] at HL HA ⊢
      have HT2 := Aside0.mk hb
      clear hb HT
      cases b
      · go_wp2_with fail
        go_round
        case rel => exact ⟨k + 1, by omega, by go_num, HT2⟩
        case measure => simp [intOf]; omega
      · go_wp2_with fail
        go_ret
        exact ⟨⟨(k : Int), rfl, by rw [HA.out (by trivial)]; exact decide_eq_true (by omega)⟩, rfl⟩
    · obtain rfl : k = n := by omega
      have HE := Aside0.mk (show tooLong ts = false by have h := HT.out; rw [← HLen.out, List.take_length] at h; exact h)
      go_wp2_with fail
      go_ret
      exact ⟨⟨-1, rfl, by rw [HE.out]; rfl⟩, rfl⟩
def slices_ContainsFunc_string_string_at_fact_Check_1.f (l0 : List ByteArray) : Option Bool := some (tooLong l0)
set_option maxRecDepth 100000 in
set_option maxHeartbeats 400000 in
theorem slices_ContainsFunc_string_string_at_fact_Check_1.calls (A0 : Option Addr) (c0 : Nat) (l0 : List ByteArray) (r : Bool) (w : World) (hr0 : Kd.C Kd.string w A0 l0.length l0) (hc0 : l0.length ≤ c0) (h : slices_ContainsFunc_string_string_at_fact_Check_1.f l0 = some r) :
    Calls Try.prog 28 #[.slice A0 l0.length c0, .func (.func 27) #[] #[]] w fun e w' => e = .returned (.bool r) ∧ Drawn0 w w' := by
  unfold slices_ContainsFunc_string_string_at_fact_Check_1.f at h
  injection h with h
  have HH := Aside0.mk h
  have H := Aside0.mk (index_long l0 A0 l0.length c0 w hr0)
  clear hr0 h hc0
  go_enter Try.func28, Try.ntmps28
  go_wp2_with fail
  refine H.out.mono ?_
  rintro e w1 ⟨⟨k, rfl, hk⟩, rfl⟩
  have HK := Aside0.mk hk
  clear hk
  go_wp2_with fail
  go_ret
  exact ⟨by rw [← HH.out, ← HK.out]; rfl, Drawn0.refl _⟩
end Go.Proofs.Ytfeeahjaeapkoaa.P
end
