/- Texts of this repo, joined, without what this claim does not use: FBag1, FFlat, FBagA, FSortK, FExtBag, P19, FExtAwake, P17. -/
import Derived.Test.YtfeeahjaeapkoaaDFactChecks1
import Derived.Test.YtfeeahjaeapkoaaDFactChecks2
section
namespace Go.Proofs.Ytfeeahjaeapkoaa.Ext
set_option linter.unusedVariables false
set_option linter.unusedSimpArgs false
open Go.RowKit Go.Proofs.YtfeeahjaeapkoaaW.PrintWords Go.Proofs.YtfeeahjaeapkoaaW.PrintLast Go.Proofs.YtfeeahjaeapkoaaW.PrintMore Go.Proofs.Ytfeeahjaeapkoaa.Lib Go.Proofs.Ytfeeahjaeapkoaa.P
theorem infoMany : (Try.prog.info? 40).map (fun i => (i.zero, i.size, i.bytes)) = some (some (.agg #[.int .i64 0, .slice none 0 0, .slice none 0 0, .int .u64 0]), 4, 64) := by kernel_rfl
set_option maxRecDepth 100000 in
set_option maxHeartbeats 400000 in
theorem all_calls (a b c : Value) (ha : a.oneCell' = true) (hb : b.oneCell' = true) (hc : c.oneCell' = true) (w : World) : Calls Try.prog 34 #[.agg #[a, b, c]] w fun e w' => e = .returned (.bool true) ∧ Below w.heap.size w w' := by
  go_enter Try.func34, Try.ntmps34
  go_wp2_with (first | (((with_reducible refine gate_dst (N := 1) rfl ?_); refine box_event ?hg (N := 1) ?hd (cs := #[a, b, c]) (t := 27) ?hr ?_; (case hd => rfl); (case hg => rfl); (case hr => first | (go_simp; done) | (go_simp; rfl)); intro g1 hg w1 hbox hb; have GE1 := Aside0.mk (Nat.le_of_eq hg.symm); have BK1 := Aside0.mk hbox; have HX1 := Aside0.mk hb; clear hg hbox hb)) | fail)
  go_ret
  exact ⟨rfl, HX1.out⟩
theorem kqC_get {w : World} {A : Option Addr} {n : Nat} {xs : List Q} (h : kq.C w A n xs) (i : Nat) (hi : i < n) :
    ∃ ad, A = some ad ∧ w.cell? (ad.add (i * 4)) = some (.int .i64 (xs.getD i zQ).1) ∧ w.cell? ⟨(ad.add (i * 4)).block, (ad.add (i * 4)).off + 1, none⟩ = some (.slice (xs.getD i zQ).2.1.1 (xs.getD i zQ).2.1.2.1 (xs.getD i zQ).2.1.2.2) ∧ w.cell? ⟨(ad.add (i * 4)).block, (ad.add (i * 4)).off + 2, none⟩ = some (.slice (xs.getD i zQ).2.2.1.1 (xs.getD i zQ).2.2.1.2.1 (xs.getD i zQ).2.2.1.2.2) ∧ w.cell? ⟨(ad.add (i * 4)).block, (ad.add (i * 4)).off + 3, none⟩ = some (.int .u64 (xs.getD i zQ).2.2.2) := by
  obtain ⟨ad, cs, e, hcl, hK, hcc⟩ := Kd.C_get h zQ (i : Int) (by omega) (by omega)
  rw [Int.toNat_natCast] at hK hcc
  have e1 : cs = encQ (xs.getD i zQ) := by
    obtain ⟨_, _, rfl, rfl, _, _, rfl, rfl, _, _, rfl, rfl, rfl⟩ := hK; rfl
  subst e1
  have hc : ∀ j u, (encQ (xs.getD i zQ))[j]? = some u → w.cell? (ad.add (i * 4 + j)) = some u := hcc
  exact ⟨ad, e, hc 0 _ rfl, by rw [← add_field _ _ 1 (by omega)]; exact hc 1 _ rfl, by rw [← add_field _ _ 2 (by omega)]; exact hc 2 _ rfl, by rw [← add_field _ _ 3 (by omega)]; exact hc 3 _ rfl⟩
structure TakeOk (W : World) (ls : List Q) (f : FuncId) (cap : Array Value) (tk : Q → Bool) : Prop where
  ok : ∃ fn, Try.prog.funcs[f]? = some fn ∧ (fn.name == "runtime.NumGoroutine") = false ∧ fn.body.isSome = true
  calls : ∀ w, Below W.heap.size W w → ∀ q ∈ ls, Calls Try.prog f (#[] ++ #[qV q] ++ cap) w fun e w' => e = .returned (.bool (tk q)) ∧ Below w.heap.size w w'
theorem pre_fC (dec : Q → F) : Pre (fun p q => fC (dec p) (dec q)) where
  asym := fun x y h1 h2 => by have := fC_anti (dec x) (dec y); omega
  trans := fun x y z h1 h2 h3 => by
    have a1 := fC_anti (dec x) (dec y)
    have a2 := fC_anti (dec y) (dec z)
    have a3 := fC_anti (dec x) (dec z)
    have v1 := fC_vals (dec x) (dec y)
    have v2 := fC_vals (dec y) (dec z)
    have v3 := fC_vals (dec x) (dec z)
    by_cases e1 : fC (dec x) (dec y) = 0
    · have := fC_eq e1; rw [this] at h3; exact h2 h3
    · by_cases e2 : fC (dec y) (dec z) = 0
      · have := fC_eq e2; rw [← this] at h3; exact h1 h3
      · have := fC_trans (a := dec z) (b := dec y) (c := dec x) (by omega) (by omega)
        omega
theorem dec_of {w w4 : World} {g : Nat} {q : Q} {x : F} (h : Fl w q x) (hb : Below w.heap.size w w4) (hg : w.heap.size ≤ g) : Dec w4 g q x :=
  ⟨h.t, h.dn, h.dc, Kd.C_foot_came (Kd.heap_scalar) h.d hb hg, h.mn, h.mc, Kd.C_foot_came (Kd.heap_scalar) h.m hb hg, h.dl, h.ml⟩
theorem below_drewN (w : World) (n : Nat) : Below w.heap.size w (w.drewN n) := pw_below_drewN (Below.refl _ _) n
set_option maxRecDepth 100000 in
set_option maxHeartbeats 1600000 in
theorem bag_calls (K : Nat) (hK : K ≤ 1099511627776) (hsort : SortUpto K) (n c : Nat) (A : Option Addr) (ls : List Q) (f : FuncId) (cap : Array Value) (tk : Q → Bool) (w : World) (hC : kq.C w A n ls) (hn : n ≤ K) (htk : TakeOk w ls f cap tk) (dec : Q → F) (hdec : ∀ q ∈ ls, Fl w q (dec q)) :
    Calls Try.prog 33 #[.slice A n c, .func (.func f) #[] cap] w fun e w' => ∃ v, e = .returned v ∧ k40.R 40 w' w.heap.size (fun _ => True) v ((bagOf ((ls.filter tk).map fun q => (dec q, q.2.2.2))).map s40) ∧ Below w.heap.size w w' := by
  have HDec := Aside0.mk hdec
  have HSort := Aside0.mk hsort
  have HC := Aside0.mk hC
  have HN := Aside0.mk (show ls.length = n from hC.1)
  obtain ⟨fn, hf, hname, hbody⟩ := htk.ok
  have HF := Aside0.mk hf
  have HNm := Aside0.mk hname
  have HBd := Aside0.mk hbody
  have HTk := Aside0.mk htk.calls
  clear hC hf hname hbody htk hdec hsort
  have HB := Aside0.mk (Below.refl w.heap.size w)
  go_enter Try.func33, Try.ntmps33
  go_wp2_with fail
  go_loopw [5, 13] (fun v5 v13 w' => ∃ (i : Nat) (v : Value), i ≤ n ∧ v5 = v ∧ v13 = .int .i64 i ∧ Aside0 (kq.R 40 w' w.heap.size (fun _ => True) v ((ls.take i).filter tk)) ∧ Aside0 (Below w.heap.size w w')) (fun _ v13 _ => n - (intOf v13).toNat)
  case atStart => exact ⟨0, _, Nat.zero_le _, rfl, rfl, ⟨Kd.R_nil _ _ _ _ _⟩, HB⟩
  case round =>
    clear HB
    obtain ⟨i, v, hi, rfl, rfl, HR, HB⟩ := hrel
    by_cases hlt : i < n
    · have hii : (i : Int) < (n : Int) := by omega
      obtain ⟨ad, e, d0, d1, d2, d3⟩ := kqC_get (Kd.C_below HC.out HB.out) i hlt
      subst e
      have HT := Aside0.mk (show (ls.take (i + 1)).filter tk = (ls.take i).filter tk ++ if tk (ls.getD i zQ) = true then [ls.getD i zQ] else [] by
        have := HN.out
        rw [List.take_succ_eq_append_getElem (by omega), List.getD_eq_getElem?_getD, List.getElem?_eq_getElem (by omega), List.filter_append, List.filter_cons, List.filter_nil]; rfl)
      have HM := Aside0.mk (show ls.getD i zQ ∈ ls by
        have := HN.out
        rw [List.getD_eq_getElem?_getD, List.getElem?_eq_getElem (by omega)]; exact List.getElem_mem _)
      generalize ls.getD i zQ = q at *
      have HTq := Aside0.mk (fun w1 (h : Below w.heap.size w w1) => HTk.out w1 h q HM.out)
      clear HM
      generalize tk q = bt at HT HTq
      go_wp2_with (first
        | (((with_reducible refine gate_dst (N := 7) rfl ?_); refine box_event ?hg (N := 7) ?hd (cs := #[.int .i64 0, .slice none 0 0, .slice none 0 0, .int .u64 0]) (t := 40) ?hr ?_; (case hd => rfl); (case hg => rfl); (case hr => first | (go_simp; done) | (go_simp; rfl)); intro g1 hg w1 hbox hb; have GE1 := Aside0.mk (Nat.le_of_eq hg.symm); have BK1 := Aside0.mk hbox; have HX1 := Aside0.mk hb; clear hg hbox hb); have HB1 := Aside0.mk (below_then HB.out HB.out.size HX1.out); have HR1 := Aside0.mk (Kd.R_below HR.out HX1.out); have HG1 := Aside0.mk (Nat.le_trans HB.out.size GE1.out); (have hg1_0 : w1.cell? ⟨g1, 0, none⟩ = some (.int .i64 0) := (blk_cell BK1.out 0).trans rfl; have hfg1_0 := blk_frozen BK1.out 0; have hg1_1 : w1.cell? ⟨g1, 1, none⟩ = some (.slice none 0 0) := (blk_cell BK1.out 1).trans rfl; have hfg1_1 := blk_frozen BK1.out 1; have hg1_2 : w1.cell? ⟨g1, 2, none⟩ = some (.slice none 0 0) := (blk_cell BK1.out 2).trans rfl; have hfg1_2 := blk_frozen BK1.out 2; have hg1_3 : w1.cell? ⟨g1, 3, none⟩ = some (.int .u64 0) := (blk_cell BK1.out 3).trans rfl; have hfg1_3 := blk_frozen BK1.out 3))
        | ((with_reducible refine gate_dst (N := 20) rfl ?_); refine goesLv_ (some 20) rfl rfl HF.out HNm.out HBd.out #[qV q] rfl rfl (by simp only [List.map_toArray, List.map_cons, List.map_nil]; rfl) ?_; have HXs := Aside0.mk (show Below wr.heap.size wr ((((w1.setCell ⟨g1, 0, none⟩ (.int .i64 (q).1)).setCell ⟨g1, 1, none⟩ (.slice (q).2.1.1 (q).2.1.2.1 (q).2.1.2.2)).setCell ⟨g1, 2, none⟩ (.slice (q).2.2.1.1 (q).2.2.1.2.1 (q).2.2.1.2.2)).setCell ⟨g1, 3, none⟩ (.int .u64 (q).2.2.2)) from below_set (below_set (below_set (below_set HX1.out GE1.out) GE1.out) GE1.out) GE1.out); have BKs := Aside0.mk (show (((((w1.setCell ⟨g1, 0, none⟩ (.int .i64 (q).1)).setCell ⟨g1, 1, none⟩ (.slice (q).2.1.1 (q).2.1.2.1 (q).2.1.2.2)).setCell ⟨g1, 2, none⟩ (.slice (q).2.2.1.1 (q).2.2.1.2.1 (q).2.2.1.2.2)).setCell ⟨g1, 3, none⟩ (.int .u64 (q).2.2.2))).heap[g1]? = some (.cells #[.int .i64 q.1, .slice q.2.1.1 q.2.1.2.1 q.2.1.2.2, .slice q.2.2.1.1 q.2.2.1.2.1 q.2.2.1.2.2, .int .u64 q.2.2.2] 40 (0, 0)) from (blk_set (blk_set (blk_set (blk_set BK1.out 0 _) 1 _) 2 _) 3 _)); clear hg1_0 hfg1_0 hg1_1 hfg1_1 hg1_2 hfg1_2 hg1_3 hfg1_3; generalize ((((w1.setCell ⟨g1, 0, none⟩ (.int .i64 (q).1)).setCell ⟨g1, 1, none⟩ (.slice (q).2.1.1 (q).2.1.2.1 (q).2.1.2.2)).setCell ⟨g1, 2, none⟩ (.slice (q).2.2.1.1 (q).2.2.1.2.1 (q).2.2.1.2.2)).setCell ⟨g1, 3, none⟩ (.int .u64 (q).2.2.2)) = w2 at *; have HBs := Aside0.mk (below_then HB.out HB.out.size HXs.out); refine (HTq.out _ HBs.out).mono ?_; rintro e w3 ⟨rfl, hb⟩; refine ⟨_, rfl, ?_⟩; have HX3 := Aside0.mk (below_then HXs.out HXs.out.size hb); have HB3 := Aside0.mk (below_then HB.out HB.out.size HX3.out); have HR3 := Aside0.mk (Kd.R_below HR.out HX3.out); have BK3 := Aside0.mk (blk_below BKs.out hb); clear hb; (have hg1_0 : w3.cell? ⟨g1, 0, none⟩ = some (.int .i64 (q).1) := (blk_cell BK3.out 0).trans rfl; have hfg1_0 := blk_frozen BK3.out 0; have hg1_1 : w3.cell? ⟨g1, 1, none⟩ = some (.slice (q).2.1.1 (q).2.1.2.1 (q).2.1.2.2) := (blk_cell BK3.out 1).trans rfl; have hfg1_1 := blk_frozen BK3.out 1; have hg1_2 : w3.cell? ⟨g1, 2, none⟩ = some (.slice (q).2.2.1.1 (q).2.2.1.2.1 (q).2.2.1.2.2) := (blk_cell BK3.out 2).trans rfl; have hfg1_2 := blk_frozen BK3.out 2; have hg1_3 : w3.cell? ⟨g1, 3, none⟩ = some (.int .u64 (q).2.2.2) := (blk_cell BK3.out 3).trans rfl; have hfg1_3 := blk_frozen BK3.out 3); cases bt)
        | ((with_reducible refine gate_builtin (b := .append) (xs := #[.tmp 21, .tmp 23]) rfl ?_); at_builtin; refine Kd.R_append kq (w0 := w) w.heap.size rfl (.tmp 21) (.tmp 23) 36 40 (.agg #[.int .i64 0, .slice none 0 0, .slice none 0 0, .int .u64 0]) 64 rfl Try.underlying36 infoMany rfl (by decide) (by omega) u5 ((ls.take i).filter tk) q (encQ q) (fun _ => True) (fun _ => False) rfl rfl (kq_M.2 rfl) (fun _ hk => hk.elim) (fun _ _ => trivial) HR3.out HB3.out HB3.out.size (by have := List.length_filter_le tk (ls.take i); have := List.length_take_le i ls; omega) ?_; intro v4 w4 ho4 hb4 hg4 ha4; have HO4 := Aside0.mk ho4; have HB4 := Aside0.mk hb4; clear ho4 hb4 hg4 ha4; clear hg1_0 hfg1_0 hg1_1 hfg1_1 hg1_2 hfg1_2 hg1_3 hfg1_3)
        | fail)
      · go_roundw
        case rel => exact ⟨i + 1, _, by omega, rfl, by go_num, ⟨by rw [HT.out, if_neg (by decide), List.append_nil]; exact HR3.out⟩, HB3⟩
        case measure => simp [intOf]; omega
      · go_roundw
        case rel => exact ⟨i + 1, _, by omega, rfl, by go_num, ⟨by rw [HT.out, if_pos rfl]; exact HO4.out⟩, HB4⟩
        case measure => simp [intOf]; omega
    · have e0 : i = n := by omega
      subst e0
      have HL := Aside0.mk (show (ls.take ls.length).filter tk = ls.filter tk by rw [List.take_length])
      have hii : decide (i < i) = false := decide_eq_false (by omega)
      have HD4 := Aside0.mk (fun q (h : q ∈ ls.filter tk) => HDec.out q (List.mem_filter.1 h).1)
      have HLn := Aside0.mk (List.length_filter_le tk ls)
      replace HR := Aside0.mk (show kq.R 40 wr w.heap.size (fun _ => True) u5 (ls.filter tk) by have := HR.out; rw [← HN.out, HL.out] at this; exact this)
      generalize hLd : ls.filter tk = L at *
      have HLd := Aside0.mk hLd
      clear HL hlt hLd
      go_wp2_with fail
      rcases R_cases HR.out with ⟨rfl, rfl⟩ | ⟨g, c5, rfl, hg1, hg2⟩
      · go_wp2_with (first | (go_at_call 45; refine (sort_nil _ _).mono ?_; rintro e w2 ⟨rfl, hw2⟩; subst hw2) | fail)
        go_loopw [8, 30] (fun v8 v30 w' => v8 = .int .i64 0 ∧ v30 = .int .i64 0 ∧ w2 = w') (fun _ _ _ => 0)
        case atStart => exact ⟨rfl, rfl, rfl⟩
        case round =>
          obtain ⟨rfl, rfl, rfl⟩ := hrel
          go_wp2_with (first | (go_at_call 48; refine (del_nil _ _).mono ?_; rintro e w3 ⟨rfl, hw3⟩; subst hw3) | fail)
          go_ret
          refine ⟨_, rfl, ?_, HB.out⟩
          rw [HLd.out]
          exact Kd.R_nil _ _ _ _ _
      · have HDc := Aside0.mk (fun q (h : q ∈ L) => dec_of (HD4.out q h) HB.out hg1)
        refine (HSort.out _ (pre_fC dec) _ _ Try.func46 rfl rfl g c5 L.length L wr w.heap.size _ HR.out (Nat.le_trans HLn.out (by rw [HN.out]; exact hn)) (cmp_ok wr g L dec HDc.out)).mono ?_
        rintro e w5 ⟨rfl, zs, hrs, hso⟩
        have HI0 := Aside0.mk (show Inv2 w wr w5 w.heap.size g L.length c5 zs zs (zs.map fun q => (dec q, q.2.2.2)) 0 from ⟨hrs.row, fun _ _ => rfl, fun j hj => absurd hj (Nat.not_lt_zero j), HB.out.grown hrs.grown HB.out.size (fun k hk => by injection hk with hk; omega), hrs.grown⟩)
        have HSo := Aside0.mk (show SortedM (zs.map fun q => (dec q, q.2.2.2)) from List.Pairwise.map _ (fun _ _ h => h) hso)
        have HPe := Aside0.mk hrs.perm
        have HZl := Aside0.mk hrs.perm.length_eq
        have HDz := Aside0.mk (fun q (h : q ∈ zs) => HDc.out q (hrs.perm.mem_iff.1 h))
        clear hrs hso HR HDc HD4
        generalize L.length = m at *
        go_wp2_with fail
        go_loopw [8, 30] (fun v8 v30 w' => ∃ (i : Nat) (ys : List Q), v8 = .int .i64 (upB (zs.map fun q => (dec q, q.2.2.2)) i).length ∧ v30 = .int .i64 i ∧ i ≤ m ∧ Aside0 (Inv2 w wr w' w.heap.size g m c5 zs ys (zs.map fun q => (dec q, q.2.2.2)) i)) (fun _ v30 _ => m - (intOf v30).toNat)
        case atStart => exact ⟨0, zs, rfl, rfl, Nat.zero_le _, HI0⟩
        case round =>
          clear HI0
          obtain ⟨k, ys, rfl, rfl, hkm, HI⟩ := hrel
          by_cases hk : k < m
          · have hki : (k : Int) < (m : Int) := by omega
            obtain ⟨d0, d1, d2, d3⟩ := kq_get HI.out.row k (by omega)
            simp only [encSL] at d1 d2
            have HBg := Aside0.mk HI.out.below
            have hkl : k < zs.length := by have := HZl.out; have := (Kd.R_reads' HI.out.row).1; omega
            have HMz := Aside0.mk (show zs.getD k zQ ∈ zs by rw [List.getD_eq_getElem?_getD, List.getElem?_eq_getElem hkl]; exact List.getElem_mem _)
            have HQ := Aside0.mk (show ys.getD k zQ = zs.getD k zQ from HI.out.rest k (Nat.le_refl k))
            have HFq := Aside0.mk ((HDz.out _ HMz.out).fl HI.out.grown)
            rw [HQ.out] at d0 d1 d2 d3
            have HLi := Aside0.mk (show (zs.map fun q => (dec q, q.2.2.2)).length = m ∧ ∀ h, (zs.map fun q => (dec q, q.2.2.2))[k]'h = (dec (zs.getD k zQ), (zs.getD k zQ).2.2.2) from ⟨by rw [List.length_map]; have := HZl.out; have := (Kd.R_reads' HI.out.row).1; omega, fun h => by rw [List.getElem_map, List.getD_eq_getElem?_getD, List.getElem?_eq_getElem hkl]; rfl⟩)
            clear HMz HQ
            generalize zs.getD k zQ = q at *
            generalize dec q = x at *
            go_wp2_with (first
              | (((with_reducible refine gate_dst (N := 10) rfl ?_); refine box_event ?hg (N := 10) ?hd (cs := #[.int .i64 0, .slice none 0 0, .slice none 0 0, .int .u64 0]) (t := 40) ?hr ?_; (case hd => rfl); (case hg => rfl); (case hr => first | (go_simp; done) | (go_simp; rfl)); intro g1 hg w1 hbox hb; have GE1 := Aside0.mk (Nat.le_of_eq hg.symm); have BK1 := Aside0.mk hbox; have HX1 := Aside0.mk hb; clear hg hbox hb); have HI1 := Aside0.mk (HI.out.step HX1.out); have HG1 := Aside0.mk (Nat.le_trans HI.out.below.size GE1.out); (have hg1_0 : w1.cell? ⟨g1, 0, none⟩ = some (.int .i64 0) := (blk_cell BK1.out 0).trans rfl; have hfg1_0 := blk_frozen BK1.out 0; have hg1_1 : w1.cell? ⟨g1, 1, none⟩ = some (.slice none 0 0) := (blk_cell BK1.out 1).trans rfl; have hfg1_1 := blk_frozen BK1.out 1; have hg1_2 : w1.cell? ⟨g1, 2, none⟩ = some (.slice none 0 0) := (blk_cell BK1.out 2).trans rfl; have hfg1_2 := blk_frozen BK1.out 2; have hg1_3 : w1.cell? ⟨g1, 3, none⟩ = some (.int .u64 0) := (blk_cell BK1.out 3).trans rfl; have hfg1_3 := blk_frozen BK1.out 3))
              | fail)
            have HX2 := Aside0.mk (show Below wr.heap.size wr (((((w1.setCell ⟨g1, 0, none⟩ (.int .i64 (q).1)).setCell ⟨g1, 1, none⟩ (.slice (q).2.1.1 (q).2.1.2.1 (q).2.1.2.2)).setCell ⟨g1, 2, none⟩ (.slice (q).2.2.1.1 (q).2.2.1.2.1 (q).2.2.1.2.2)).setCell ⟨g1, 3, none⟩ (.int .u64 (q).2.2.2))) from below_set (below_set (below_set (below_set HX1.out GE1.out) GE1.out) GE1.out) GE1.out)
            have BK2 := Aside0.mk (show (((((w1.setCell ⟨g1, 0, none⟩ (.int .i64 (q).1)).setCell ⟨g1, 1, none⟩ (.slice (q).2.1.1 (q).2.1.2.1 (q).2.1.2.2)).setCell ⟨g1, 2, none⟩ (.slice (q).2.2.1.1 (q).2.2.1.2.1 (q).2.2.1.2.2)).setCell ⟨g1, 3, none⟩ (.int .u64 (q).2.2.2))).heap[g1]? = some (.cells #[.int .i64 q.1, .slice q.2.1.1 q.2.1.2.1 q.2.1.2.2, .slice q.2.2.1.1 q.2.2.1.2.1 q.2.2.1.2.2, .int .u64 q.2.2.2] 40 (0, 0)) from blk_set (blk_set (blk_set (blk_set BK1.out 0 _) 1 _) 2 _) 3 _)
            have HI2 := Aside0.mk (HI.out.step HX2.out)
            have HFq2 := Aside0.mk (HFq.out.below HX2.out)
            clear hg1_0 hfg1_0 hg1_1 hfg1_1 hg1_2 hfg1_2 hg1_3 hfg1_3 d0 d1 d2 d3 HI HI1 HBg HFq BK1 HX1
            generalize ((((w1.setCell ⟨g1, 0, none⟩ (.int .i64 (q).1)).setCell ⟨g1, 1, none⟩ (.slice (q).2.1.1 (q).2.1.2.1 (q).2.1.2.2)).setCell ⟨g1, 2, none⟩ (.slice (q).2.2.1.1 (q).2.2.1.2.1 (q).2.2.1.2.2)).setCell ⟨g1, 3, none⟩ (.int .u64 (q).2.2.2)) = w2 at *
            go_cut [8, 47] (fun s8 s47 wx => ∃ b : Bool, s8 = .int .i64 (upB (zs.map fun q => (dec q, q.2.2.2)) k).length ∧ s47 = .bool b ∧ Aside0 (Below w2.heap.size w2 wx) ∧ Aside0 (b = true → ∃ n, (upB (zs.map fun q => (dec q, q.2.2.2)) k).length = n + 1 ∧ fC ((upB (zs.map fun q => (dec q, q.2.2.2)) k).getD n zM).1 x = 0) ∧ Aside0 (b = false → ∀ n, (upB (zs.map fun q => (dec q, q.2.2.2)) k).length = n + 1 → fC ((upB (zs.map fun q => (dec q, q.2.2.2)) k).getD n zM).1 x ≠ 0))
            case first =>
              have HUl := Aside0.mk (upB_len (zs.map fun q => (dec q, q.2.2.2)) k (by have := HLi.out.1; omega))
              rcases hU : (upB (zs.map fun q => (dec q, q.2.2.2)) k).length with _ | n
              · have HU := Aside0.mk hU
                clear hU
                go_wp2_with fail
                go_quiet (fail)
                go_wp2_with fail
                go_meet
                exact ⟨false, by rw [HU.out], rfl, ⟨below_drewN _ _⟩, ⟨fun h => by cases h⟩, ⟨fun _ n h => by rw [HU.out] at h; cases h⟩⟩
              · have HU := Aside0.mk hU
                have HO := Aside0.mk (HI2.out.own n (by omega))
                obtain ⟨d0, d1, d2, d3⟩ := kq_get HI2.out.row n (by have := HUl.out; omega)
                simp only [encSL] at d1 d2
                have HFy := Aside0.mk (OwnD.fl HO.out)
                have hnm : (n : Int) < (m : Int) := by have := HUl.out; omega
                have hmb : m ≤ 1099511627776 := by have := HLn.out; have := HN.out; omega
                have hn0 : (0 : Int) < (n : Int) + 1 := by omega
                have hwn : wrap64 (n : Int) = (n : Int) := by unfold wrap64; omega
                clear hU HO
                generalize hyy : (upB (zs.map fun q => (dec q, q.2.2.2)) k).getD n zM = y at *
                have HY := Aside0.mk hyy
                clear hyy
                generalize ys.getD n zQ = p at *
                (have hg1_0 : w2.cell? ⟨g1, 0, none⟩ = some (.int .i64 q.1) := (blk_cell BK2.out 0).trans rfl; have hfg1_0 := blk_frozen BK2.out 0; have hg1_1 : w2.cell? ⟨g1, 1, none⟩ = some (.slice q.2.1.1 q.2.1.2.1 q.2.1.2.2) := (blk_cell BK2.out 1).trans rfl; have hfg1_1 := blk_frozen BK2.out 1; have hg1_2 : w2.cell? ⟨g1, 2, none⟩ = some (.slice q.2.2.1.1 q.2.2.1.2.1 q.2.2.1.2.2) := (blk_cell BK2.out 2).trans rfl; have hfg1_2 := blk_frozen BK2.out 2; have hg1_3 : w2.cell? ⟨g1, 3, none⟩ = some (.int .u64 q.2.2.2) := (blk_cell BK2.out 3).trans rfl; have hfg1_3 := blk_frozen BK2.out 3)
                go_wp2_with fail
                refine start_ (n := 14) (S := fun w' => w'.cell? ⟨g, n * 4, none⟩ = some (.int .i64 p.1) ∧ w'.cell? ⟨g, n * 4 + 1, none⟩ = some (.slice p.2.1.1 p.2.1.2.1 p.2.1.2.2) ∧ w'.cell? ⟨g, n * 4 + 2, none⟩ = some (.slice p.2.2.1.1 p.2.2.1.2.1 p.2.2.1.2.2) ∧ w'.cell? ⟨g1, 0, none⟩ = some (.int .i64 q.1) ∧ w'.cell? ⟨g1, 1, none⟩ = some (.slice q.2.1.1 q.2.1.2.1 q.2.1.2.2) ∧ w'.cell? ⟨g1, 2, none⟩ = some (.slice q.2.2.1.1 q.2.2.1.2.1 q.2.2.1.2.2)) (ds := []) #[false, false, false, false, false, false, false, false, false, false, false, false, false, false] (by kernel_rfl) rfl rfl ⟨d0, d1, d2, hg1_0, hg1_1, hg1_2⟩ (fun hHeld => ?_)
                refine pure_ (i := 0) (N := some 34) (v := ?_) (a' := ?_) #[true, false, false, false, false, false, false, false, false, false, false, false, false, false] rfl rfl (by kernel_rfl) (fun _ _ _ h => h) (Or.inl ⟨by rfl, ?_⟩) ?_ ?_
                rotate_left
                · intro w'
                  go_simp
                  with_reducible rfl
                rotate_left
                · simp only [Act.put, List.setIfInBounds_toArray, List.set_cons_zero, List.set_cons_succ, i64_w, i32_w]
                  rfl
                refine pure_ (i := 1) (N := some 35) (v := ?_) (a' := ?_) #[true, true, false, false, false, false, false, false, false, false, false, false, false, false] rfl rfl (by kernel_rfl) (fun _ _ _ h => h) (Or.inl ⟨by rfl, ?_⟩) ?_ ?_
                rotate_left
                · intro w'
                  go_simp
                  with_reducible rfl
                rotate_left
                · simp only [Act.put, List.setIfInBounds_toArray, List.set_cons_zero, List.set_cons_succ, i64_w, i32_w]
                  rfl
                refine pure_ (i := 2) (N := some 36) (v := ?_) (a' := ?_) #[true, true, true, false, false, false, false, false, false, false, false, false, false, false] rfl rfl (by kernel_rfl) (fun _ _ _ h => h) (Or.inl ⟨by rfl, ?_⟩) ?_ ?_
                rotate_left
                · intro w'
                  go_simp
                  with_reducible rfl
                rotate_left
                · simp only [Act.put, List.setIfInBounds_toArray, List.set_cons_zero, List.set_cons_succ, i64_w, i32_w]
                  rfl
                refine pure_ (i := 3) (N := some 37) (v := ?_) (a' := ?_) #[true, true, true, true, false, false, false, false, false, false, false, false, false, false] rfl rfl (by kernel_rfl) (fun _ _ _ h => h) (Or.inl ⟨by rfl, ?_⟩) ?_ ?_
                rotate_left
                · intro w'
                  go_simp
                  with_reducible rfl
                rotate_left
                · simp only [Act.put, List.setIfInBounds_toArray, List.set_cons_zero, List.set_cons_succ, i64_w, i32_w]
                  rfl
                refine pure_ (i := 4) (N := some 38) (v := ?_) (a' := ?_) #[true, true, true, true, true, false, false, false, false, false, false, false, false, false] rfl rfl (by kernel_rfl) (fun _ _ _ h => h) (Or.inl ⟨by rfl, ?_⟩) ?_ ?_
                rotate_left
                · intro w'
                  go_simp
                  with_reducible rfl
                rotate_left
                · simp only [Act.put, List.setIfInBounds_toArray, List.set_cons_zero, List.set_cons_succ, i64_w, i32_w]
                  rfl
                refine pure_ (i := 5) (N := some 39) (v := ?_) (a' := ?_) #[true, true, true, true, true, true, false, false, false, false, false, false, false, false] rfl rfl (by kernel_rfl) (fun _ _ _ h => h) (Or.inl ⟨by rfl, ?_⟩) ?_ ?_
                rotate_left
                · intro w'
                  go_simp
                  with_reducible rfl
                rotate_left
                · simp only [Act.put, List.setIfInBounds_toArray, List.set_cons_zero, List.set_cons_succ, i64_w, i32_w]
                  rfl
                refine pure_ (i := 6) (N := some 40) (v := ?_) (a' := ?_) #[true, true, true, true, true, true, true, false, false, false, false, false, false, false] rfl rfl (by kernel_rfl) (fun _ _ _ h => h) (Or.inl ⟨by rfl, ?_⟩) ?_ ?_
                rotate_left
                · intro w'
                  go_simp
                  with_reducible rfl
                rotate_left
                · simp only [Act.put, List.setIfInBounds_toArray, List.set_cons_zero, List.set_cons_succ, i64_w, i32_w]
                  rfl
                refine pure_ (i := 7) (N := some 41) (v := ?_) (a' := ?_) #[true, true, true, true, true, true, true, true, false, false, false, false, false, false] rfl rfl (by kernel_rfl) (fun _ _ _ h => h) (Or.inl ⟨by rfl, ?_⟩) ?_ ?_
                rotate_left
                · intro w'
                  go_simp
                  with_reducible rfl
                rotate_left
                · simp only [Act.put, List.setIfInBounds_toArray, List.set_cons_zero, List.set_cons_succ, i64_w, i32_w]
                  rfl
                refine pure_ (i := 9) (N := some 43) (v := ?_) (a' := ?_) #[true, true, true, true, true, true, true, true, false, true, false, false, false, false] rfl rfl (by kernel_rfl) (fun _ _ _ h => h) (Or.inl ⟨by rfl, ?_⟩) ?_ ?_
                rotate_left
                · intro w'
                  go_simp
                  with_reducible rfl
                rotate_left
                · simp only [Act.put, List.setIfInBounds_toArray, List.set_cons_zero, List.set_cons_succ, i64_w, i32_w]
                  rfl
                refine take_ (i := 8) (N := some 42) (v := ?_) (a' := ?_) #[true, true, true, true, true, true, true, true, true, true, false, false, false, false] rfl rfl (by kernel_rfl) (fun _ _ _ h => h) (Or.inl ⟨by rfl, ?_⟩) hHeld ?_ ?_
                rotate_left
                · rintro w' ⟨s0, s1, s2, s3, s4, s5⟩
                  go_simp
                  with_reducible rfl
                rotate_left
                · simp only [Act.put, List.setIfInBounds_toArray, List.set_cons_zero, List.set_cons_succ, i64_w, i32_w]
                  rfl
                refine take_ (i := 10) (N := some 44) (v := ?_) (a' := ?_) #[true, true, true, true, true, true, true, true, true, true, true, false, false, false] rfl rfl (by kernel_rfl) (fun _ _ _ h => h) (Or.inl ⟨by rfl, ?_⟩) hHeld ?_ ?_
                rotate_left
                · rintro w' ⟨s0, s1, s2, s3, s4, s5⟩
                  go_simp
                  with_reducible rfl
                rotate_left
                · simp only [Act.put, List.setIfInBounds_toArray, List.set_cons_zero, List.set_cons_succ, i64_w, i32_w]
                  rfl
                refine one_ (i := 11) (N := some 45) #[true, true, true, true, true, true, true, true, true, true, true, true, false, false] rfl rfl (by kernel_rfl) (by decide) (fun K hK => ?_)
                refine goes_ Try.func14 (by kernel_rfl) rfl #[.agg #[.int .i64 p.1, .slice p.2.1.1 p.2.1.2.1 p.2.1.2.2, .slice p.2.2.1.1 p.2.2.1.2.1 p.2.2.1.2.2], .agg #[.int .i64 q.1, .slice q.2.1.1 q.2.1.2.1 q.2.1.2.2, .slice q.2.2.1.1 q.2.2.1.2.1 q.2.2.1.2.2]] (by rfl) rfl rfl (by simp only [List.map_toArray, List.map_cons, List.map_nil]; rfl) ?_
                with_reducible refine (cmp_flat (HFy.out.below (below_drew (Below.refl _ _))) (HFq2.out.below (below_drew (Below.refl _ _)))).mono ?_
                rintro e w3 ⟨rfl, hb⟩
                refine ⟨_, rfl, ?_⟩
                have hbx := Aside0.mk (below_then (below_drew (Below.refl _ _)) (Nat.le_refl _) hb)
                clear hb
                refine hK.out _ _ ⟨(pw_cell_below hbx.out d0), (pw_cell_below hbx.out d1), (pw_cell_below hbx.out d2), (pw_cell_below hbx.out hg1_0), (pw_cell_below hbx.out hg1_1), (pw_cell_below hbx.out hg1_2)⟩ (fun hHeld => ?_)
                clear hK K
                refine norm_ (a' := ?_) ?_ ?_
                rotate_left
                · show Act.put _ (some 45) _ = _
                  simp only [Act.put, List.setIfInBounds_toArray, List.set_cons_zero, List.set_cons_succ, i64_w, i32_w]
                  rfl
                refine pure_ (i := 12) (N := some 46) (v := ?_) (a' := ?_) #[true, true, true, true, true, true, true, true, true, true, true, true, true, false] rfl rfl (by kernel_rfl) (fun _ _ _ h => h) (Or.inl ⟨by rfl, ?_⟩) ?_ ?_
                rotate_left
                · intro w'
                  go_simp
                  with_reducible rfl
                rotate_left
                · simp only [Act.put, List.setIfInBounds_toArray, List.set_cons_zero, List.set_cons_succ, i64_w, i32_w]
                  rfl
                refine pure_ (i := 13) (N := some 47) (v := ?_) (a' := ?_) #[true, true, true, true, true, true, true, true, true, true, true, true, true, true] rfl rfl (by kernel_rfl) (fun _ _ _ h => h) (Or.inl ⟨by rfl, ?_⟩) ?_ ?_
                rotate_left
                · intro w'
                  go_simp
                  with_reducible rfl
                rotate_left
                · simp only [Act.put, List.setIfInBounds_toArray, List.set_cons_zero, List.set_cons_succ, i64_w, i32_w]
                  rfl
                refine done_ (by kernel_rfl) ?_
                clear hmb hn0 hnm hwn
                go_wp2_with fail
                go_meet
                exact ⟨fC y.1 x == 0, by rw [HU.out], rfl, hbx, ⟨fun h => ⟨n, HU.out, by rw [HY.out]; exact eq_of_beq h⟩⟩, ⟨fun h n2 h2 => by
                  rw [HU.out] at h2
                  injection h2 with h2
                  subst h2
                  rw [HY.out]
                  exact fun h3 => by rw [h3] at h; cases h⟩⟩
            case rest =>
              obtain ⟨b, rfl, rfl, HBc, HB1, HB0⟩ := hcut
              have HI3 := Aside0.mk (HI2.out.step HBc.out)
              have HFq3 := Aside0.mk (HFq2.out.below HBc.out)
              have BK3 := Aside0.mk (blk_below BK2.out HBc.out)
              have HX3 := Aside0.mk (below_then HX2.out HX2.out.size HBc.out)
              clear HI2 HFq2 BK2 HBc HX2
              cases b with
              | true =>
                obtain ⟨n, hU, hfc⟩ := HB1.out rfl
                have HU := Aside0.mk hU
                have HUl := Aside0.mk (upB_len (zs.map fun q => (dec q, q.2.2.2)) k (by have := HLi.out.1; omega))
                have HIs := Aside0.mk (HI3.out.same HSo.out (by have := HLi.out.1; omega) HLi.out.1 hg1 n hU (by rw [HLi.out.2]; exact hfc))
                have HN3 := Aside0.mk (HI3.out.own n (by omega)).n
                have HFc := Aside0.mk hfc
                clear HB1 HB0 hfc
                rw [hU]
                obtain ⟨-, -, -, d3⟩ := kq_get HI3.out.row n (by have := HUl.out; omega)
                have hnm : (n : Int) < (m : Int) := by have := HUl.out; omega
                have hmb : m ≤ 1099511627776 := by have := HLn.out; have := HN.out; omega
                have hn0 : (0 : Int) < (n : Int) + 1 := by omega
                have hwn : wrap64 (n : Int) = (n : Int) := by unfold wrap64; omega
                clear hU
                rw [HLi.out.2] at HIs
                generalize ys.getD n zQ = p at *
                (have hg1_0 : wc.cell? ⟨g1, 0, none⟩ = some (.int .i64 q.1) := (blk_cell BK3.out 0).trans rfl; have hfg1_0 := blk_frozen BK3.out 0; have hg1_1 : wc.cell? ⟨g1, 1, none⟩ = some (.slice q.2.1.1 q.2.1.2.1 q.2.1.2.2) := (blk_cell BK3.out 1).trans rfl; have hfg1_1 := blk_frozen BK3.out 1; have hg1_2 : wc.cell? ⟨g1, 2, none⟩ = some (.slice q.2.2.1.1 q.2.2.1.2.1 q.2.2.1.2.2) := (blk_cell BK3.out 2).trans rfl; have hfg1_2 := blk_frozen BK3.out 2; have hg1_3 : wc.cell? ⟨g1, 3, none⟩ = some (.int .u64 q.2.2.2) := (blk_cell BK3.out 3).trans rfl; have hfg1_3 := blk_frozen BK3.out 3)
                obtain ⟨cs3, hcs3⟩ := Kd.R_typed HI3.out.row g rfl
                have hfz : ∀ o, wc.frozen? ⟨g, o, none⟩ = false := fun o => blk_frozen hcs3 o
                go_wp2_with fail
                refine start_ (n := 12) (S := fun w' => w'.cell? ⟨g, n * 4 + 3, none⟩ = some (.int .u64 p.2.2.2) ∧ w'.cell? ⟨g1, 3, none⟩ = some (.int .u64 q.2.2.2) ∧ ∀ o, w'.frozen? ⟨g, o, none⟩ = false) (ds := [11]) #[false, false, false, false, false, false, false, false, false, false, false, false] (by kernel_rfl) rfl rfl ⟨d3, hg1_3, hfz⟩ (fun hHeld => ?_)
                refine pure_ (i := 0) (N := some 48) (v := ?_) (a' := ?_) #[true, false, false, false, false, false, false, false, false, false, false, false] rfl rfl (by kernel_rfl) (fun _ _ _ h => h) (Or.inl ⟨by rfl, ?_⟩) ?_ ?_
                rotate_left
                · intro w'
                  go_simp
                  with_reducible rfl
                rotate_left
                · simp only [Act.put, List.setIfInBounds_toArray, List.set_cons_zero, List.set_cons_succ, i64_w, i32_w]
                  rfl
                refine pure_ (i := 1) (N := some 49) (v := ?_) (a' := ?_) #[true, true, false, false, false, false, false, false, false, false, false, false] rfl rfl (by kernel_rfl) (fun _ _ _ h => h) (Or.inl ⟨by rfl, ?_⟩) ?_ ?_
                rotate_left
                · intro w'
                  go_simp
                  with_reducible rfl
                rotate_left
                · simp only [Act.put, List.setIfInBounds_toArray, List.set_cons_zero, List.set_cons_succ, i64_w, i32_w]
                  rfl
                refine pure_ (i := 2) (N := some 50) (v := ?_) (a' := ?_) #[true, true, true, false, false, false, false, false, false, false, false, false] rfl rfl (by kernel_rfl) (fun _ _ _ h => h) (Or.inl ⟨by rfl, ?_⟩) ?_ ?_
                rotate_left
                · intro w'
                  go_simp
                  with_reducible rfl
                rotate_left
                · simp only [Act.put, List.setIfInBounds_toArray, List.set_cons_zero, List.set_cons_succ, i64_w, i32_w]
                  rfl
                refine pure_ (i := 3) (N := some 51) (v := ?_) (a' := ?_) #[true, true, true, true, false, false, false, false, false, false, false, false] rfl rfl (by kernel_rfl) (fun _ _ _ h => h) (Or.inl ⟨by rfl, ?_⟩) ?_ ?_
                rotate_left
                · intro w'
                  go_simp
                  with_reducible rfl
                rotate_left
                · simp only [Act.put, List.setIfInBounds_toArray, List.set_cons_zero, List.set_cons_succ, i64_w, i32_w]
                  rfl
                refine pure_ (i := 4) (N := some 52) (v := ?_) (a' := ?_) #[true, true, true, true, true, false, false, false, false, false, false, false] rfl rfl (by kernel_rfl) (fun _ _ _ h => h) (Or.inl ⟨by rfl, ?_⟩) ?_ ?_
                rotate_left
                · intro w'
                  go_simp
                  with_reducible rfl
                rotate_left
                · simp only [Act.put, List.setIfInBounds_toArray, List.set_cons_zero, List.set_cons_succ, i64_w, i32_w]
                  rfl
                refine pure_ (i := 6) (N := some 54) (v := ?_) (a' := ?_) #[true, true, true, true, true, false, true, false, false, false, false, false] rfl rfl (by kernel_rfl) (fun _ _ _ h => h) (Or.inl ⟨by rfl, ?_⟩) ?_ ?_
                rotate_left
                · intro w'
                  go_simp
                  with_reducible rfl
                rotate_left
                · simp only [Act.put, List.setIfInBounds_toArray, List.set_cons_zero, List.set_cons_succ, i64_w, i32_w]
                  rfl
                refine take_ (i := 5) (N := some 53) (v := ?_) (a' := ?_) #[true, true, true, true, true, true, true, false, false, false, false, false] rfl rfl (by kernel_rfl) (fun _ _ _ h => h) (Or.inl ⟨by rfl, ?_⟩) hHeld ?_ ?_
                rotate_left
                · rintro w' ⟨s0, s1, s2⟩
                  go_simp
                  with_reducible rfl
                rotate_left
                · simp only [Act.put, List.setIfInBounds_toArray, List.set_cons_zero, List.set_cons_succ, i64_w, i32_w]
                  rfl
                refine take_ (i := 7) (N := some 55) (v := ?_) (a' := ?_) #[true, true, true, true, true, true, true, true, false, false, false, false] rfl rfl (by kernel_rfl) (fun _ _ _ h => h) (Or.inl ⟨by rfl, ?_⟩) hHeld ?_ ?_
                rotate_left
                · rintro w' ⟨s0, s1, s2⟩
                  go_simp
                  with_reducible rfl
                rotate_left
                · simp only [Act.put, List.setIfInBounds_toArray, List.set_cons_zero, List.set_cons_succ, i64_w, i32_w]
                  rfl
                refine pure_ (i := 8) (N := some 56) (v := ?_) (a' := ?_) #[true, true, true, true, true, true, true, true, true, false, false, false] rfl rfl (by kernel_rfl) (fun _ _ _ h => h) (Or.inl ⟨by rfl, ?_⟩) ?_ ?_
                rotate_left
                · intro w'
                  go_simp
                  with_reducible rfl
                rotate_left
                · simp only [Act.put, List.setIfInBounds_toArray, List.set_cons_zero, List.set_cons_succ, i64_w, i32_w]
                  rfl
                refine pure_ (i := 9) (N := some 57) (v := ?_) (a' := ?_) #[true, true, true, true, true, true, true, true, true, true, false, false] rfl rfl (by kernel_rfl) (fun _ _ _ h => h) (Or.inl ⟨by rfl, ?_⟩) ?_ ?_
                rotate_left
                · intro w'
                  go_simp
                  with_reducible rfl
                rotate_left
                · simp only [Act.put, List.setIfInBounds_toArray, List.set_cons_zero, List.set_cons_succ, i64_w, i32_w]
                  rfl
                refine pure_ (i := 10) (N := some 58) (v := ?_) (a' := ?_) #[true, true, true, true, true, true, true, true, true, true, true, false] rfl rfl (by kernel_rfl) (fun _ _ _ h => h) (Or.inl ⟨by rfl, ?_⟩) ?_ ?_
                rotate_left
                · intro w'
                  go_simp
                  with_reducible rfl
                rotate_left
                · simp only [Act.put, List.setIfInBounds_toArray, List.set_cons_zero, List.set_cons_succ, i64_w, i32_w]
                  rfl
                refine last_ (i := 11) (N := none) #[true, true, true, true, true, true, true, true, true, true, true, true] rfl rfl (by kernel_rfl) (by decide) (fun K hK => ?_)
                refine skip_ (w1 := ?_) (by rfl) rfl ?_ ?_
                rotate_left
                · go_simp
                  rfl
                refine hK.out _ _ ?_
                clear hK K
                refine done_ (by kernel_rfl) ?_
                have HI4 := Aside0.mk (HIs.out.step (below_drew (Below.refl _ _)))
                have HSa := Aside0.mk (up_same HSo.out k (by have := HLi.out.1; omega) n HU.out (by rw [HLi.out.2]; exact HFc.out))
                clear HI3 HIs hHeld hfz d3 hcs3 hg1_0 hfg1_0 hg1_1 hfg1_1 hg1_2 hfg1_2 hg1_3 hfg1_3 hn0 hnm hwn
                go_wp2_with fail
                go_roundw
                case rel => exact ⟨k + 1, _, by rw [HSa.out, List.length_set, HU.out]; rfl, by go_num, by omega, HI4⟩
                case measure => simp [intOf]; omega
              | false =>
                have HUl := Aside0.mk (upB_len (zs.map fun q => (dec q, q.2.2.2)) k (by have := HLi.out.1; omega))
                have HNe := Aside0.mk (up_new HSo.out k (by have := HLi.out.1; omega) (by rw [HLi.out.2]; exact HB0.out rfl))
                have HNq := Aside0.mk (HB0.out rfl)
                generalize hUU : (upB (zs.map fun q => (dec q, q.2.2.2)) k).length = U at *
                have HU := Aside0.mk hUU
                clear hUU HB0 HB1
                have hum : (U : Int) < (m : Int) := by have := HUl.out; omega
                have hmb : m ≤ 1099511627776 := by have := HLn.out; have := HN.out; omega
                obtain ⟨d0, d1, d2, d3⟩ := kq_get HI3.out.row U (by have := HUl.out; omega)
                simp only [encSL] at d1 d2
                generalize ys.getD U zQ = r at *
                (have hg1_0 : wc.cell? ⟨g1, 0, none⟩ = some (.int .i64 q.1) := (blk_cell BK3.out 0).trans rfl; have hfg1_0 := blk_frozen BK3.out 0; have hg1_1 : wc.cell? ⟨g1, 1, none⟩ = some (.slice q.2.1.1 q.2.1.2.1 q.2.1.2.2) := (blk_cell BK3.out 1).trans rfl; have hfg1_1 := blk_frozen BK3.out 1; have hg1_2 : wc.cell? ⟨g1, 2, none⟩ = some (.slice q.2.2.1.1 q.2.2.1.2.1 q.2.2.1.2.2) := (blk_cell BK3.out 2).trans rfl; have hfg1_2 := blk_frozen BK3.out 2; have hg1_3 : wc.cell? ⟨g1, 3, none⟩ = some (.int .u64 q.2.2.2) := (blk_cell BK3.out 3).trans rfl; have hfg1_3 := blk_frozen BK3.out 3)
                obtain ⟨cs3, hcs3⟩ := Kd.R_typed HI3.out.row g rfl
                have hfz : ∀ o, wc.frozen? ⟨g, o, none⟩ = false := fun o => blk_frozen hcs3 o
                go_wp2_with fail
                refine start_ (n := 10) (S := fun w' => w'.cell? ⟨g1, 0, none⟩ = some (.int .i64 q.1) ∧ w'.cell? ⟨g1, 1, none⟩ = some (.slice q.2.1.1 q.2.1.2.1 q.2.1.2.2) ∧ w'.cell? ⟨g1, 2, none⟩ = some (.slice q.2.2.1.1 q.2.2.1.2.1 q.2.2.1.2.2) ∧ w'.cell? ⟨g1, 3, none⟩ = some (.int .u64 q.2.2.2) ∧ w'.cell? ⟨g, U * 4, none⟩ = some (.int .i64 r.1) ∧ w'.cell? ⟨g, U * 4 + 1, none⟩ = some (.slice r.2.1.1 r.2.1.2.1 r.2.1.2.2) ∧ w'.cell? ⟨g, U * 4 + 2, none⟩ = some (.slice r.2.2.1.1 r.2.2.1.2.1 r.2.2.1.2.2) ∧ w'.cell? ⟨g, U * 4 + 3, none⟩ = some (.int .u64 r.2.2.2) ∧ ∀ o, w'.frozen? ⟨g, o, none⟩ = false) (ds := [9]) #[false, false, false, false, false, false, false, false, false, false] (by kernel_rfl) rfl rfl ⟨hg1_0, hg1_1, hg1_2, hg1_3, d0, d1, d2, d3, hfz⟩ (fun hHeld => ?_)
                refine pure_ (i := 0) (N := some 59) (v := ?_) (a' := ?_) #[true, false, false, false, false, false, false, false, false, false] rfl rfl (by kernel_rfl) (fun _ _ _ h => h) (Or.inl ⟨by rfl, ?_⟩) ?_ ?_
                rotate_left
                · intro w'
                  go_simp
                  with_reducible rfl
                rotate_left
                · simp only [Act.put, List.setIfInBounds_toArray, List.set_cons_zero, List.set_cons_succ, i64_w, i32_w]
                  rfl
                refine pure_ (i := 1) (N := some 60) (v := ?_) (a' := ?_) #[true, true, false, false, false, false, false, false, false, false] rfl rfl (by kernel_rfl) (fun _ _ _ h => h) (Or.inl ⟨by rfl, ?_⟩) ?_ ?_
                rotate_left
                · intro w'
                  go_simp
                  with_reducible rfl
                rotate_left
                · simp only [Act.put, List.setIfInBounds_toArray, List.set_cons_zero, List.set_cons_succ, i64_w, i32_w]
                  rfl
                refine pure_ (i := 2) (N := some 61) (v := ?_) (a' := ?_) #[true, true, true, false, false, false, false, false, false, false] rfl rfl (by kernel_rfl) (fun _ _ _ h => h) (Or.inl ⟨by rfl, ?_⟩) ?_ ?_
                rotate_left
                · intro w'
                  go_simp
                  with_reducible rfl
                rotate_left
                · simp only [Act.put, List.setIfInBounds_toArray, List.set_cons_zero, List.set_cons_succ, i64_w, i32_w]
                  rfl
                refine pure_ (i := 5) (N := some 64) (v := ?_) (a' := ?_) #[true, true, true, false, false, true, false, false, false, false] rfl rfl (by kernel_rfl) (fun _ _ _ h => h) (Or.inl ⟨by rfl, ?_⟩) ?_ ?_
                rotate_left
                · intro w'
                  go_simp
                  with_reducible rfl
                rotate_left
                · simp only [Act.put, List.setIfInBounds_toArray, List.set_cons_zero, List.set_cons_succ, i64_w, i32_w]
                  rfl
                refine take_ (i := 3) (N := some 62) (v := ?_) (a' := ?_) #[true, true, true, true, false, true, false, false, false, false] rfl rfl (by kernel_rfl) (fun _ _ _ h => h) (Or.inl ⟨by rfl, ?_⟩) hHeld ?_ ?_
                rotate_left
                · rintro w' ⟨s0, s1, s2, s3, s4, s5, s6, s7, s8⟩
                  go_simp
                  with_reducible rfl
                rotate_left
                · simp only [Act.put, List.setIfInBounds_toArray, List.set_cons_zero, List.set_cons_succ, i64_w, i32_w]
                  rfl
                refine take_ (i := 6) (N := some 65) (v := ?_) (a' := ?_) #[true, true, true, true, false, true, true, false, false, false] rfl rfl (by kernel_rfl) (fun _ _ _ h => h) (Or.inl ⟨by rfl, ?_⟩) hHeld ?_ ?_
                rotate_left
                · rintro w' ⟨s0, s1, s2, s3, s4, s5, s6, s7, s8⟩
                  go_simp
                  with_reducible rfl
                rotate_left
                · simp only [Act.put, List.setIfInBounds_toArray, List.set_cons_zero, List.set_cons_succ, i64_w, i32_w]
                  rfl
                refine one_ (i := 4) (N := some 63) #[true, true, true, true, true, true, true, false, false, false] rfl rfl (by kernel_rfl) (by decide) (fun K hK => ?_)
                refine goes_ Try.func47 (by kernel_rfl) rfl #[.agg #[.int .i64 q.1, .slice q.2.1.1 q.2.1.2.1 q.2.1.2.2, .slice q.2.2.1.1 q.2.2.1.2.1 q.2.2.1.2.2]] (by rfl) rfl rfl (by simp only [List.map_toArray, List.map_cons, List.map_nil]; rfl) ?_
                with_reducible refine (own_flat (HFq3.out.below (below_drew (Below.refl _ _)))).mono ?_
                rintro e w5 ⟨dA, dn, dc, mA, mn, mc, rfl, rd, rm, hb⟩
                refine ⟨_, rfl, ?_⟩
                have hbx := Aside0.mk (below_then (below_drew (Below.refl _ _)) (Nat.le_refl _) hb)
                have HRd := Aside0.mk rd
                have HRm := Aside0.mk rm
                have HFz := Aside0.mk (fun o => blk_frozen (blk_below hcs3 hbx.out) o)
                clear hb rd rm
                refine hK.out _ _ ⟨(pw_cell_below hbx.out hg1_0), (pw_cell_below hbx.out hg1_1), (pw_cell_below hbx.out hg1_2), (pw_cell_below hbx.out hg1_3), (pw_cell_below hbx.out d0), (pw_cell_below hbx.out d1), (pw_cell_below hbx.out d2), (pw_cell_below hbx.out d3), HFz.out⟩ (fun hHeld => ?_)
                clear hK K
                refine norm_ (a' := ?_) ?_ ?_
                rotate_left
                · show Act.put _ (some 63) _ = _
                  simp only [Act.put, List.setIfInBounds_toArray, List.set_cons_zero, List.set_cons_succ, i64_w, i32_w]
                  rfl
                refine pure_ (i := 7) (N := some 66) (v := ?_) (a' := ?_) #[true, true, true, true, true, true, true, true, false, false] rfl rfl (by kernel_rfl) (fun _ _ _ h => h) (Or.inl ⟨by rfl, ?_⟩) ?_ ?_
                rotate_left
                · intro w'
                  go_simp
                  with_reducible rfl
                rotate_left
                · simp only [Act.put, List.setIfInBounds_toArray, List.set_cons_zero, List.set_cons_succ, i64_w, i32_w]
                  rfl
                refine pure_ (i := 8) (N := some 67) (v := ?_) (a' := ?_) #[true, true, true, true, true, true, true, true, true, false] rfl rfl (by kernel_rfl) (fun _ _ _ h => h) (Or.inl ⟨by rfl, ?_⟩) ?_ ?_
                rotate_left
                · intro w'
                  go_simp
                  with_reducible rfl
                rotate_left
                · simp only [Act.put, List.setIfInBounds_toArray, List.set_cons_zero, List.set_cons_succ, i64_w, i32_w]
                  rfl
                refine last_ (i := 9) (N := none) #[true, true, true, true, true, true, true, true, true, true] rfl rfl (by kernel_rfl) (by decide) (fun K hK => ?_)
                refine skip_ (w1 := ?_) (by rfl) rfl ?_ ?_
                rotate_left
                · go_simp
                  rfl
                refine hK.out _ _ ?_
                clear hK K
                refine done_ (by kernel_rfl) ?_
                have HPu := Aside0.mk ((HI3.out.step hbx.out).put HSo.out (by have := HLi.out.1; omega) HLi.out.1 hg1 (by rw [HLi.out.2]; rw [HU.out]; exact HNq.out) (x.1, (dA, dn, dc), (mA, mn, mc), q.2.2.2) (by
                  rw [HLi.out.2]
                  exact own_new (Nat.lt_of_lt_of_le hg2 HI3.out.grown.size) HI3.out.below.size rfl rfl HRd.out HRm.out HFq3.out.dl HFq3.out.ml))
                rw [HU.out, set4] at HPu
                clear hHeld HFz HRd HRm hbx d0 d1 d2 d3 hfz hcs3 hg1_0 hfg1_0 hg1_1 hfg1_1 hg1_2 hfg1_2 hg1_3 hfg1_3 HI3 HX3 BK3 HFq3
                generalize ((((w5.setCell ⟨g, U * 4, none⟩ (.int .i64 x.1)).setCell ⟨g, U * 4 + 1, none⟩ (.slice dA dn dc)).setCell ⟨g, U * 4 + 2, none⟩ (.slice mA mn mc)).setCell ⟨g, U * 4 + 3, none⟩ (.int .u64 q.2.2.2)) = w6 at *
                go_wp2_with fail
                go_roundw
                case rel => exact ⟨k + 1, _, by rw [HNe.out, List.length_append, HU.out]; go_num, by go_num, by omega, HPu⟩
                case measure => simp [intOf]; omega
          · have e0 : k = m := by omega
            subst e0
            have hii2 : decide (k < k) = false := decide_eq_false (by omega)
            clear hk
            have HLz := Aside0.mk (show (zs.map fun q => (dec q, q.2.2.2)).length = k by rw [List.length_map]; exact HZl.out)
            have HUl := Aside0.mk (upB_len (zs.map fun q => (dec q, q.2.2.2)) k (Nat.le_of_eq HLz.out.symm))
            have HUa := Aside0.mk (show upB (zs.map fun q => (dec q, q.2.2.2)) k = bagB [] (L.map fun q => (dec q, q.2.2.2)) by
              have h := upB_all (zs.map fun q => (dec q, q.2.2.2))
              rw [HLz.out] at h
              rw [h]
              exact bagB_perm (HPe.out.map _) [] List.Pairwise.nil)
            have HYl := Aside0.mk (Kd.R_reads' HI.out.row)
            have HDl := Aside0.mk (del_flat g (upB (zs.map fun q => (dec q, q.2.2.2)) k).length c5 (ys.take (upB (zs.map fun q => (dec q, q.2.2.2)) k).length) wr w.heap.size (Kd.R_take HI.out.row (by have := HUl.out; have := HYl.out.1; omega)) (by have := HUl.out; have := HLn.out; have := HN.out; omega))
            have HEn := Aside0.mk (fun w2 hr hg => bag_end (n := 0) (w := wr) (w2 := w2) (c := c5) hr hg (by have := HUl.out; have := HYl.out.1; omega) HI.out.own)
            generalize hUU : (upB (zs.map fun q => (dec q, q.2.2.2)) k).length = U at *
            have HU := Aside0.mk hUU
            have hUc : U ≤ c5 := by have := HUl.out; have := HYl.out.2.1; have := HYl.out.1; omega
            have HBw := Aside0.mk HI.out.below
            clear hUU
            go_wp2_with (first | (go_at_call 48; refine HDl.out.mono ?_; rintro e w7 ⟨rfl, hr7, hg7⟩; have HR7 := Aside0.mk hr7; have HG7 := Aside0.mk hg7; clear hr7 hg7) | fail)
            go_ret
            refine ⟨_, rfl, ?_, HBw.out.grown HG7.out HBw.out.size (fun k hk => by injection hk with hk; omega)⟩
            (try rw [HLd.out])
            have h := HEn.out w7
            rw [HUa.out] at h
            exact h HR7.out HG7.out
end Go.Proofs.Ytfeeahjaeapkoaa.Ext
end

section
namespace Go.Proofs.Ytfeeahjaeapkoaa.Ext
set_option linter.unusedVariables false
set_option linter.unusedSimpArgs false
open Go.RowKit Go.Proofs.YtfeeahjaeapkoaaW.PrintWords Go.Proofs.YtfeeahjaeapkoaaW.PrintLast Go.Proofs.YtfeeahjaeapkoaaW.PrintMore Go.Proofs.Ytfeeahjaeapkoaa.Lib Go.Proofs.Ytfeeahjaeapkoaa.P
theorem C_det {α : Type} {enc : α → Value} {h1 : ∀ x, (enc x).oneCell' = true} (hinj : ∀ x y, enc x = enc y → x = y) {w : World} {A : Option Addr} {n m : Nat} {xs ys : List α} (hx : (Kd.scalar enc h1).C w A n xs) (hy : (Kd.scalar enc h1).C w A m ys) (hl : n = m) : xs = ys := by
  subst hl
  obtain ⟨l1, _, c1⟩ := hx
  obtain ⟨l2, _, c2⟩ := hy
  refine List.ext_getElem (l1.trans l2.symm) (fun i h h' => ?_)
  obtain ⟨a1, e1, k1⟩ := c1 (by omega)
  obtain ⟨a2, e2, k2⟩ := c2 (by omega)
  rw [e1] at e2
  injection e2 with e2
  subst e2
  obtain ⟨d1, _, r1, u1⟩ := k1 i _ (List.getElem?_eq_getElem h)
  obtain ⟨d2, _, r2, u2⟩ := k2 i _ (List.getElem?_eq_getElem h')
  have e1 : d1 = [enc xs[i]] := r1
  have e2 : d2 = [enc ys[i]] := r2
  subst e1 e2
  have v1 := u1 0 _ rfl
  have v2 := u2 0 _ rfl
  rw [v1] at v2
  exact hinj _ _ (Option.some.inj v2)
theorem Fl.det {w : World} {q : Q} {x y : F} (hx : Fl w q x) (hy : Fl w q y) : x = y := by
  obtain ⟨a, b, c⟩ := x
  obtain ⟨a', b', c'⟩ := y
  have e1 : a = a' := hx.t.symm.trans hy.t
  have e2 : b = b' := C_det (fun x y h => by injection h) hx.d hy.d (hx.dn.symm.trans hy.dn)
  have e3 : c = c' := C_det (fun x y h => by injection h) hx.m hy.m (hx.mn.symm.trans hy.mn)
  subst e1 e2 e3
  rfl
noncomputable def decW (w : World) (q : Q) : F := @Classical.epsilon F ⟨(0, [], [])⟩ (fun x => Fl w q x)
theorem decW_eq {w : World} {q : Q} {x : F} (h : Fl w q x) : decW w q = x := Fl.det (@Classical.epsilon_spec_aux F ⟨(0, [], [])⟩ (fun x => Fl w q x) ⟨x, h⟩) h
theorem two_map {R : Q → M → Prop} {w : World} (hR : ∀ q x, R q x → Fl w q x.1 ∧ q.2.2.2 = x.2) (tk : F → Bool) : ∀ {qs : List Q} {l : List M}, Two R qs l → (qs.filter (fun q => tk (decW w q))).map (fun q => (decW w q, q.2.2.2)) = l.filter (fun x => tk x.1)
  | [], [], _ => rfl
  | q :: a, x :: b, h => by
    have e := decW_eq (hR _ _ h.1).1
    rw [List.filter_cons, List.filter_cons, e]
    split
    · rw [List.map_cons, two_map hR tk h.2, e, (hR _ _ h.1).2]
    · exact two_map hR tk h.2
theorem two_mem {R : Q → M → Prop} : ∀ {qs : List Q} {l : List M}, Two R qs l → ∀ q ∈ qs, ∃ x ∈ l, R q x
  | q :: a, x :: b, h, p, hp => by
    rcases List.mem_cons.1 hp with rfl | hp
    · exact ⟨x, by simp, h.1⟩
    · obtain ⟨y, hy, hr⟩ := two_mem h.2 p hp
      exact ⟨y, by simp [hy], hr⟩
  | [], [], _, p, hp => by simp at hp
theorem bag_known (K : Nat) (hK : K ≤ 1099511627776) (hsort : SortUpto K) (n c : Nat) (A : Option Addr) (qs : List Q) (l : List M) (f : FuncId) (cap : Array Value) (tk : F → Bool) (w : World) (hC : kq.C w A n qs) (hn : n ≤ K) (ht : Two (fun q x => Fl w q x.1 ∧ q.2.2.2 = x.2) qs l)
    (hf : ∃ fn, Try.prog.funcs[f]? = some fn ∧ (fn.name == "runtime.NumGoroutine") = false ∧ fn.body.isSome = true)
    (htk : ∀ w', Below w.heap.size w w' → ∀ q x, Fl w' q x → Calls Try.prog f (#[] ++ #[qV q] ++ cap) w' fun e w'' => e = .returned (.bool (tk x)) ∧ Below w'.heap.size w' w'') :
    Calls Try.prog 33 #[.slice A n c, .func (.func f) #[] cap] w fun e w' => ∃ v, e = .returned v ∧ k40.R 40 w' w.heap.size (fun _ => True) v ((bagOf (l.filter fun x => tk x.1)).map s40) ∧ Below w.heap.size w w' := by
  have hd : ∀ q ∈ qs, Fl w q (decW w q) := fun q hq => by
    obtain ⟨x, _, hx⟩ := two_mem ht q hq
    rw [decW_eq hx.1]
    exact hx.1
  have := bag_calls K hK hsort n c A qs f cap (fun q => tk (decW w q)) w hC hn ⟨hf, fun w' hb q hq => htk w' hb q _ ((hd q hq).below hb)⟩ (decW w) hd
  rw [two_map (fun _ _ h => h) tk ht] at this
  exact this
end Go.Proofs.Ytfeeahjaeapkoaa.Ext
end

section
namespace Go.Proofs.Ytfeeahjaeapkoaa.Ext
set_option linter.unusedVariables false
set_option linter.unusedSimpArgs false
open Go.RowKit Go.Proofs.YtfeeahjaeapkoaaW.PrintWords Go.Proofs.YtfeeahjaeapkoaaW.PrintLast Go.Proofs.YtfeeahjaeapkoaaW.PrintMore Go.Proofs.Ytfeeahjaeapkoaa.Lib Go.Proofs.Ytfeeahjaeapkoaa.P
theorem R_shape {α : Type} {d : Kd α} {e : Nat} {w : World} {base : Nat} {ok : Nat → Prop} {v : Value} {xs : List α} (h : d.R e w base ok v xs) {b : Nat} (hb : v.ownBlock = some b) : ∃ c, v = .slice (some ⟨b, 0, none⟩) xs.length c ∧ b < w.heap.size := by
  have hlt := Kd.R_lt h b hb
  obtain ⟨_, inner, ho, _⟩ := h
  rcases ho.2 with ⟨e1, _⟩ | ⟨g, cap, cur, e1, hg, _⟩
  · subst e1; cases hb
  · subst e1
    injection hb with hb
    subst hb
    exact ⟨cap, rfl, hlt⟩
def m27 (x : S27) : M := ((x.f0, x.f1, x.f2), 1)
def Small27 (x : S27) : Prop := x.f1.length ≤ 8796093022208 ∧ x.f2.length ≤ 8796093022208
inductive RelG (w : World) (g n c : Nat) (l : List S27) (v : Value) (w' : World) : Prop
  | mk (i : Nat) (ys : List Q) (e : v = .int .i64 i) (hi : i ≤ n) (hrow : kq.R 40 w' w.heap.size (fun _ => True) (.slice (some ⟨g, 0, none⟩) n c) ys) (hb : Below w.heap.size w w') (hk : ∀ j, j < i → Fl w (ys.getD j zQ) (m27 (rd_T27 l j)).1 ∧ (ys.getD j zQ).2.2.2 = 1)
set_option maxRecDepth 100000 in
set_option maxHeartbeats 1600000 in
theorem Bag_calls (K : Nat) (hK : K ≤ 1099511627776) (hsort : SortUpto K) (n c : Nat) (A : Option Addr) (l : List S27) (w : World) (hC : Kd.C k27 w A n l) (hn : n ≤ K) (hs : ∀ x ∈ l, Small27 x) :
    Calls Try.prog 16 #[.slice A n c] w fun e w' => ∃ v, e = .returned v ∧ k40.R 40 w' w.heap.size (fun _ => True) v ((bagOf (l.map m27)).map s40) ∧ Below w.heap.size w w' := by
  have HC := Aside0.mk hC
  have HS := Aside0.mk hs
  have HL := Aside0.mk (show l.length = n from hC.1)
  have HSort := Aside0.mk hsort
  clear hC hs hsort
  go_enter Try.func16, Try.ntmps16
  go_upto_region 2 with (first
    | ((with_reducible refine gate_dst (N := 8) rfl ?_); refine Kd.R_make kq (w0 := w) w.heap.size 40 rfl (N := 8) rfl 36 _ _ rfl (n : Int) rfl rfl Try.underlying36 (.agg #[.int .i64 0, .slice none 0 0, .slice none 0 0, .int .u64 0]) 64 infoMany rfl (show 0 < 4 from by decide) (by decide) zQ (ok := fun _ => True) (okp := fun _ => True) ?hz (fun _ h => h) trivial (by omega) (by omega) (Below.refl _ _) (Nat.le_refl _) ?_; (case hz => exact kq_M.2 rfl); intro v6 w6 ho6 hb6 hg6 ha6; rw [Int.toNat_natCast] at ho6; obtain ⟨g, hv6, hge6⟩ := ha6; obtain ⟨c6, rfl, hlt6⟩ := R_shape ho6 hv6; rw [List.length_replicate] at ho6 ⊢; have HO := Aside0.mk ho6; have HB := Aside0.mk hb6; have HG := Aside0.mk hge6; clear ho6 hb6 hg6 hv6 hge6 hlt6)
    | fail)
  go_wp2_with fail
  go_loopw [11] (fun v11 w' => RelG w g n c6 l v11 w') (fun v11 _ => n - (intOf v11).toNat)
  case atStart => exact .mk 0 _ rfl (Nat.zero_le _) HO.out HB.out (fun j h => absurd h (Nat.not_lt_zero _))
  case round =>
    clear HO HB
    obtain ⟨i, ys, rfl, hi, hR, hB, hk⟩ := hrel
    have HR := Aside0.mk hR
    have HB := Aside0.mk hB
    have HKn := Aside0.mk hk
    clear hR hB hk
    by_cases hlt : i < n
    · have hii : (i : Int) < (n : Int) := by omega
      obtain ⟨ad, A1, c1, A2, c2, rfl, d0, d1, d2, l1, g1, l2, g2⟩ := at_T27 HC.out (i : Int) (by omega) hii
      simp only [Int.toNat_natCast] at d0 d1 d2
      have HSm := Aside0.mk (HS.out (rd_T27 l i) (by
        have := HL.out
        unfold rd_T27
        rw [Int.toNat_natCast, List.getD_eq_getElem?_getD, List.getElem?_eq_getElem (by omega)]
        exact List.getElem_mem _))
      generalize hx : rd_T27 l i = x at *
      have HX := Aside0.mk hx
      have HFl := Aside0.mk (show Fl w (x.f0, (A1, x.f1.length, c1), (A2, x.f2.length, c2), 1) (m27 x).1 from ⟨rfl, rfl, l1, g1, rfl, l2, g2, HSm.out.1, HSm.out.2⟩)
      clear hx l1 g1 l2 g2
      have d0 := pw_cell_below HB.out d0
      have d1 := pw_cell_below HB.out d1
      have d2 := pw_cell_below HB.out d2
      obtain ⟨cs3, hcs3⟩ := Kd.R_typed HR.out g rfl
      obtain ⟨c0, c1', c2', c3⟩ := kq_get HR.out i hlt
      generalize ys.getD i zQ = p at *
      simp only [encSL] at c1' c2'
      go_upto_region 5 with (first
        | (((with_reducible refine gate_dst (N := 5) rfl ?_); refine box_event ?hg (N := 5) ?hd (cs := #[.int .i64 0, .slice none 0 0, .slice none 0 0]) (t := 27) ?hr ?_; (case hd => rfl); (case hg => rfl); (case hr => first | (go_simp; done) | (go_simp; rfl)); intro g1 hg w1 hbox hb; have GE1 := Aside0.mk (Nat.le_of_eq hg.symm); have BK1 := Aside0.mk hbox; have HX1 := Aside0.mk hb; clear hg hbox hb); (have hg1_0 : w1.cell? ⟨g1, 0, none⟩ = some (.int .i64 0) := (blk_cell BK1.out 0).trans rfl; have hfg1_0 := blk_frozen BK1.out 0; have hg1_1 : w1.cell? ⟨g1, 1, none⟩ = some (.slice none 0 0) := (blk_cell BK1.out 1).trans rfl; have hfg1_1 := blk_frozen BK1.out 1; have hg1_2 : w1.cell? ⟨g1, 2, none⟩ = some (.slice none 0 0) := (blk_cell BK1.out 2).trans rfl; have hfg1_2 := blk_frozen BK1.out 2))
        | fail)
      have HXs := Aside0.mk (show Below wr.heap.size wr (((w1.setCell ⟨g1, 0, none⟩ (.int .i64 x.f0)).setCell ⟨g1, 1, none⟩ (.slice A1 x.f1.length c1)).setCell ⟨g1, 2, none⟩ (.slice A2 x.f2.length c2)) from below_set (below_set (below_set HX1.out GE1.out) GE1.out) GE1.out)
      have BKs := Aside0.mk (show (((w1.setCell ⟨g1, 0, none⟩ (.int .i64 x.f0)).setCell ⟨g1, 1, none⟩ (.slice A1 x.f1.length c1)).setCell ⟨g1, 2, none⟩ (.slice A2 x.f2.length c2)).heap[g1]? = some (.cells #[.int .i64 x.f0, .slice A1 x.f1.length c1, .slice A2 x.f2.length c2] 27 (0, 0)) from (blk_set (blk_set (blk_set BK1.out 0 _) 1 _) 2 _))
      clear hg1_0 hfg1_0 hg1_1 hfg1_1 hg1_2 hfg1_2 d0 d1 d2
      generalize (((w1.setCell ⟨g1, 0, none⟩ (.int .i64 x.f0)).setCell ⟨g1, 1, none⟩ (.slice A1 x.f1.length c1)).setCell ⟨g1, 2, none⟩ (.slice A2 x.f2.length c2)) = w2 at *
      (have hg1_0 : w2.cell? ⟨g1, 0, none⟩ = some (.int .i64 x.f0) := (blk_cell BKs.out 0).trans rfl; have hfg1_0 := blk_frozen BKs.out 0; have hg1_1 : w2.cell? ⟨g1, 1, none⟩ = some (.slice A1 x.f1.length c1) := (blk_cell BKs.out 1).trans rfl; have hfg1_1 := blk_frozen BKs.out 1; have hg1_2 : w2.cell? ⟨g1, 2, none⟩ = some (.slice A2 x.f2.length c2) := (blk_cell BKs.out 2).trans rfl; have hfg1_2 := blk_frozen BKs.out 2)
      have c0 := pw_cell_below HXs.out c0
      have c1' := pw_cell_below HXs.out c1'
      have c2' := pw_cell_below HXs.out c2'
      have c3 := pw_cell_below HXs.out c3
      have hfz : ∀ o, w2.frozen? ⟨g, o, none⟩ = false := fun o => blk_frozen (blk_below hcs3 HXs.out) o
      have HP := Aside0.mk (kq_put (Kd.R_below HR.out HXs.out) i hlt (x.f0, (A1, x.f1.length, c1), (A2, x.f2.length, c2), 1))
      have HBs := Aside0.mk (below_then HB.out HB.out.size HXs.out)
      rw [set4] at HP
      go_wp2_with fail
      go_roundw
      case rel =>
        exact .mk (i + 1) _ (by go_num) (by omega) HP.out.1 (below_set (below_set (below_set (below_set HBs.out HG.out) HG.out) HG.out) HG.out) (fun j hj => by
          have hyl : ys.length = n := (Kd.R_reads' HR.out).1.symm
          by_cases e : j = i
          · subst e
            rw [getD_set_eq _ _ _ (by omega), HX.out]
            exact ⟨HFl.out, rfl⟩
          · rw [getD_set_ne _ _ _ _ (fun h => e h.symm)]
            exact HKn.out j (by omega))
      case measure => simp [intOf]; omega
    · obtain rfl : i = n := by omega
      have hii : decide (i < i) = false := decide_eq_false (by omega)
      have HT := Aside0.mk (show Two (fun q x => Fl wr q x.1 ∧ q.2.2.2 = x.2) ys (l.map m27) from Two.of (by rw [List.length_map, HL.out]; exact (Kd.R_reads' HR.out).1) (fun j hj => by
        rw [List.length_map, HL.out] at hj
        obtain ⟨h1, h2⟩ := HKn.out j hj
        have e : (l.map m27).getD j zM = m27 (rd_T27 l j) := by
          have := HL.out
          unfold rd_T27
          rw [Int.toNat_natCast, List.getD_eq_getElem?_getD, List.getElem?_map, List.getElem?_eq_getElem (by omega), List.getD_eq_getElem?_getD, List.getElem?_eq_getElem (by omega)]
          rfl
        rw [e]
        exact ⟨h1.below HB.out, h2⟩))
      have HC2 := Aside0.mk (show kq.C wr (some ⟨g, 0, none⟩) i ys by have := (Kd.R_reads' HR.out).2.2; rwa [← (Kd.R_reads' HR.out).1] at this)
      clear hlt HKn
      go_wp2_with (first | (go_at_call 33; refine (bag_known K hK HSort.out i c6 (some ⟨g, 0, none⟩) ys (l.map m27) 34 #[] (fun _ => true) wr HC2.out hn HT.out ⟨_, Try.func34, rfl, rfl⟩ (fun w' _ q x hq => all_calls _ _ _ rfl rfl rfl w')).mono ?_; rintro e w7 ⟨v7, rfl, hr7, hb7⟩; have HR7 := Aside0.mk hr7; have HB7 := Aside0.mk (below_then HB.out HB.out.size hb7); clear hr7 hb7) | fail)
      go_ret
      refine ⟨v7, rfl, ?_, HB7.out⟩
      have h := HR7.out
      rw [List.filter_eq_self.2 (fun _ _ => rfl)] at h
      exact Kd.R_lower h HB.out.size
end Go.Proofs.Ytfeeahjaeapkoaa.Ext
end

section
namespace Go.Proofs.Ytfeeahjaeapkoaa.Ext
def sortK : Nat := 19
theorem sortK_le : sortK ≤ 1099511627776 := by decide
theorem sort_ok : SortUpto sortK := sort_few
end Go.Proofs.Ytfeeahjaeapkoaa.Ext
end

section
namespace Go.Proofs.Ytfeeahjaeapkoaa.P
set_option linter.unusedVariables false
set_option linter.unusedSimpArgs false
open Go.RowKit Go.Proofs.YtfeeahjaeapkoaaW.PrintWords Go.Proofs.YtfeeahjaeapkoaaW.PrintLast Go.Proofs.YtfeeahjaeapkoaaW.PrintMore Go.Proofs.Ytfeeahjaeapkoaa.Lib Go.Proofs.Ytfeeahjaeapkoaa.Ext
def small27 (x : S27) : Bool := decide (x.f1.length ≤ 8796093022208) && decide (x.f2.length ≤ 8796093022208)
def fact_Bag.f (l0 : List (S27)) : Option (List (S40)) := if l0.length ≤ sortK ∧ l0.all small27 = true then some ((bagOf (l0.map m27)).map s40) else none
theorem fact_Bag.calls (A0 : Option Addr) (c0 : Nat) (l0 : List (S27)) (r : List (S40)) (w : World) (hr0 : Kd.C k27 w A0 l0.length l0) (hc0 : l0.length ≤ c0) (h : fact_Bag.f l0 = some r) :
    Calls Try.prog 16 #[.slice A0 l0.length c0] w fun e w' => ∃ v0_ : Value, e = .returned v0_ ∧ Kd.R k40 40 w' w.heap.size (fun _ => True) v0_ r ∧ Below w.heap.size w w' := by
  unfold fact_Bag.f at h
  split at h
  · rename_i hh
    injection h with h
    subst h
    exact Bag_calls sortK sortK_le sort_ok _ c0 A0 l0 w hr0 hh.1 (fun x hx => by
      have := List.all_eq_true.1 hh.2 x hx
      unfold small27 at this
      simp only [Bool.and_eq_true, decide_eq_true_eq] at this
      exact this)
  · cases h
end Go.Proofs.Ytfeeahjaeapkoaa.P
end

section
namespace Go.Proofs.Ytfeeahjaeapkoaa.P
open Go.RowKit Go.Proofs.YtfeeahjaeapkoaaW.PrintWords Go.Proofs.YtfeeahjaeapkoaaW.PrintLast Go.Proofs.YtfeeahjaeapkoaaW.PrintMore
attribute [local go_sem] max2_int min2_int max_two min_two max_three min_three max_four min_four   -- for this text's walks alone
set_option linter.unusedVariables false
set_option linter.unusedSimpArgs false
open Go.Proofs.Ytfeeahjaeapkoaa.Ext (q1_ q2_ q3_ bk_ bw_ sz_ ne_ bx_)
attribute [local go_sem high] Go.Proofs.Ytfeeahjaeapkoaa.Ext.gtr_str Go.Proofs.Ytfeeahjaeapkoaa.Ext.leq_str Go.Proofs.Ytfeeahjaeapkoaa.Ext.geq_str
def fact_Count.l0 : Nat → Int → List (S40) → Int → Int → Option (Int)
 | 0, _, _, _, _ => none
 | k + 1, x2, x5, x6, x7 => if x7 < x6 then (if 0 ≤ x7 then (if x7 < (x5.length : Int) then (fact_Count.l0 k (IntKind.u64.wrap (x2 + ((rd_T40 x5 x7).f1))) x5 x6 (wrap64 (x7 + 1))) else (none)) else (none)) else (some x2)
def fact_Count.f (k : Nat) (l0 : List (S40)) : Option (Int) := fact_Count.l0 k 0 l0 (l0.length : Int) 0
set_option maxHeartbeats 8000000 in
set_option maxRecDepth 100000 in
theorem fact_Count.calls (k : Nat) (A0 : Option Addr) (c0 : Nat) (l0 : List (S40)) (r : Int) (w : World) (hr0 : Kd.C k40 w A0 l0.length l0) (hc0 : l0.length ≤ c0) (h : fact_Count.f k l0 = some r) :
  Calls Try.prog 17 #[.slice A0 l0.length c0] w fun e w' => e = .returned (.int .u64 r) ∧ Below w.heap.size w w' := by
 have hu40 := Try.underlying40
 have HR0 := Aside0.mk hr0
 have HC0 := Aside0.mk hc0
 clear hr0 hc0
 have HB := Aside0.mk (Below.refl w.heap.size w)
 have H : (fact_Count.l0 k 0 l0 (l0.length : Int) 0) = some r := h
 clear h
 have H' := Aside0.mk H
 clear H
 go_enter Try.func17, Try.ntmps17
 go_wp2
 go_loopg [2, 7] k (fun kq v2 v7 w' => ∃ (x2_1 : Int) (x7_1 : Int), v2 = .int .u64 x2_1 ∧ v7 = .int .i64 x7_1 ∧ Aside0 (fact_Count.l0 kq x2_1 l0 (l0.length : Int) x7_1 = some r) ∧ Aside0 (kq ≤ k) ∧ Aside0 (Below w.heap.size w w'))
 case atStart => exact ⟨(0), (0), (by first | rfl | (simp; done) | (simp [*]; done)), (by first | rfl | (simp; done) | (simp [*]; done)), H', ⟨Nat.le_refl _⟩, ⟨by repeat (first | (with_reducible first | exact HB.out | apply below_alloc | apply pw_below_drewN | apply below_drew1) | exact HB.out)⟩⟩
 case round =>
  clear H'
  try clear c1
  obtain ⟨x2_1, x7_1, rfl, rfl, HA, HK1, HB⟩ := hrel
  cases gk with
  | zero => exact absurd HA.out (by simp [fact_Count.l0])
  | succ k1 =>
   have H := HA.out
   clear HA
   simp only [fact_Count.l0] at H
   by_cases c2 : x7_1 < (l0.length : Int)
   ·rw [if_pos c2] at H
    have c2b0 : decide (x7_1 < (l0.length : Int)) = true := decide_eq_true c2
    clear c2
    by_cases c3 : 0 ≤ x7_1
    ·rw [if_pos c3] at H
     have c3b0 : decide (0 ≤ x7_1) = true := decide_eq_true c3
     clear c3
     by_cases c4 : x7_1 < (l0.length : Int)
     ·rw [if_pos c4] at H
      have c4b0 : decide (x7_1 < (l0.length : Int)) = true := decide_eq_true c4
      clear c4
      have H' := Aside0.mk H
      clear H
      have p160 : 0 ≤ (x7_1 : Int) := of_decide_eq_true (by assumption)
      have q160 : x7_1 < (l0.length : Int) := of_decide_eq_true (by assumption)
      obtain ⟨ad160, A160_1, c160_1, A160_2, c160_2, e160, hx160_0, hx160_1, hx160_2, hx160_3, hl160_1, hi160_1, hl160_2, hi160_2⟩ := at_T40 HR0.out x7_1 p160 q160
      cases e160
      replace hx160_0 := pw_cell_below HB.out hx160_0
      replace hx160_1 := pw_cell_below HB.out hx160_1
      replace hx160_2 := pw_cell_below HB.out hx160_2
      replace hx160_3 := pw_cell_below HB.out hx160_3
      have HR160_1 := Aside0.mk hi160_1
      have HC160_1 := Aside0.mk hl160_1
      clear hi160_1 hl160_1
      have HR160_2 := Aside0.mk hi160_2
      have HC160_2 := Aside0.mk hl160_2
      clear hi160_2 hl160_2
      replace p160 := eq_true p160
      replace q160 := eq_true q160
      go_wp2_with (first | ((with_reducible refine gate_dst (N := 4) rfl ?_); refine bx_ (N := 4) (cs := #[.int .i64 0, .slice none 0 0, .slice none 0 0, .int .u64 0]) (t := 40) ?_; intro gb161 hg w5 hbox hb; have n0_ := Aside0.mk (below_step (bw_ HB.out) hb); have n1_ := Aside0.mk (hbox); have n2_ := Aside0.mk (sz_ hg (bw_ HB.out)); have n3_ := n2_; clear HB; have HB := n0_; have BK161 := n1_; have GW161 := n2_; have GE161 := n3_; clear n0_ n1_ n2_ n3_; clear hb hbox hg; have hcz6_0 : w5.cell? ⟨gb161, 0, none⟩ = some (.int .i64 0) := (blk_cell BK161.out 0).trans rfl; have hcz6_1 : w5.cell? ⟨gb161, 1, none⟩ = some (.slice none 0 0) := (blk_cell BK161.out 1).trans rfl; have hcz6_2 : w5.cell? ⟨gb161, 2, none⟩ = some (.slice none 0 0) := (blk_cell BK161.out 2).trans rfl; have hcz6_3 : w5.cell? ⟨gb161, 3, none⟩ = some (.int .u64 0) := (blk_cell BK161.out 3).trans rfl; have hfz6_0 := blk_frozen BK161.out 0; have hfz6_1 := blk_frozen BK161.out 1; have hfz6_2 := blk_frozen BK161.out 2; have hfz6_3 := blk_frozen BK161.out 3))
      go_roundg k1
      case measure => have := HK1.out; omega
      case rel => exact ⟨(IntKind.u64.wrap (x2_1 + ((rd_T40 l0 x7_1).f1))), (wrap64 (x7_1 + 1)), (by first | rfl | (simp; done) | (simp [*]; done)), (by first | rfl | (simp; done) | (simp [*]; done)), H', ⟨by have := HK1.out; omega⟩, ⟨by repeat (first | (with_reducible first | exact HB.out | apply below_alloc | apply pw_below_drewN | apply below_drew1 | refine below_set ?_ GE161.out) | exact HB.out)⟩⟩
     ·rw [if_neg c4] at H
      exact absurd H (by simp)
    ·rw [if_neg c3] at H
     exact absurd H (by simp)
   ·rw [if_neg c2] at H
    have c2b0 : decide (x7_1 < (l0.length : Int)) = false := decide_eq_false c2
    clear c2
    obtain rfl := Option.some.inj H
    go_wp2
    go_ret
    exact ⟨by first | rfl | (simp [errW_none, errW_some] <;> rfl) | (simp [*, errW_none, errW_some] <;> rfl), by repeat (first | (with_reducible first | exact HB.out | apply below_alloc | apply pw_below_drewN | apply below_drew1) | exact HB.out)⟩
end Go.Proofs.Ytfeeahjaeapkoaa.P
end

section
namespace Go.Proofs.Ytfeeahjaeapkoaa.P
set_option linter.unusedVariables false
set_option linter.unusedSimpArgs false
open Go.RowKit Go.Proofs.YtfeeahjaeapkoaaW.PrintWords Go.Proofs.YtfeeahjaeapkoaaW.PrintLast Go.Proofs.YtfeeahjaeapkoaaW.PrintMore Go.Proofs.Ytfeeahjaeapkoaa.Lib Go.Proofs.Ytfeeahjaeapkoaa.Ext
section
variable {P : Program} {ops : Array Oper} {o : Oper} {a : Act} {Q : Exit → Act → World → Prop}
theorem row_event {rest : List Oper} {W : World} (hgd : o.guard = none) {N : Tmp} (_hd : o.dst = some N) {cs : Array Value} {t : TypeId} {n c : Nat}
    (hrun : (execOp a.eval o).run P W = .ok (.value (.slice (some ⟨W.heap.size, 0, none⟩) n c)) (W.alloc (.cells cs t (0, 0))))
    (h : ∀ g, g = W.heap.size → ∀ w1, w1.heap[g]? = some (.cells cs t (0, 0)) → Below W.heap.size W w1 → wpList P ops Q rest (a.put o.dst (.slice (some ⟨g, 0, none⟩) n c)) w1) : wpList P ops Q (o :: rest) a W :=
  Kd.event_run hgd hrun (h _ rfl _ (blk_new W _) (below_alloc (Below.refl _ _) _))
end
theorem C_no {α : Type} {d : Kd α} {w : World} : Kd.C d w none 0 [] := ⟨rfl, by decide, fun h => absurd h (Nat.lt_irrefl 0)⟩
def strA : ByteArray := ⟨#[97]⟩
def fX : S27 := ⟨1, [strA], []⟩
def fY : S27 := ⟨2, [], []⟩
theorem C_strs1 {w : World} {g : Nat} {s : ByteArray} {E : Nat} (hb : w.heap[g]? = some (.cells #[.string s] E (0, 0))) : Kd.string.C w (some ⟨g, 0, none⟩) 1 [s] := by
  refine ⟨rfl, by simp, fun _ => ⟨_, rfl, fun q p hp => ?_⟩⟩
  match q, hp with
  | 0, hp =>
    obtain rfl : s = p := by simpa using hp
    refine ⟨[.string s], rfl, rfl, fun i u hu => ?_⟩
    match i, hu with
    | 0, hu =>
      obtain rfl : Value.string s = u := by simpa using hu
      exact (blk_cell hb 0).trans rfl
    | i + 1, hu => simp at hu
  | q + 1, hp => simp at hp
theorem C_facts3 {w : World} {g g1 : Nat} {E : Nat} (hb : w.heap[g]? = some (.cells #[.int .i64 1, .slice (some ⟨g1, 0, none⟩) 1 1, .slice none 0 0, .int .i64 2, .slice none 0 0, .slice none 0 0, .int .i64 1, .slice (some ⟨g1, 0, none⟩) 1 1, .slice none 0 0] E (0, 0))) (hs : Kd.string.C w (some ⟨g1, 0, none⟩) 1 [strA]) : Kd.C k27 w (some ⟨g, 0, none⟩) 3 [fX, fY, fX] := by
  have kX : k27.K w fX [.int .i64 1, .slice (some ⟨g1, 0, none⟩) 1 1, .slice none 0 0] := k27_mk w fX (A1 := some ⟨g1, 0, none⟩) (c1 := 1) (Nat.le_refl _) hs (A2 := none) (c2 := 0) (Nat.le_refl _) C_no
  have kY : k27.K w fY [.int .i64 2, .slice none 0 0, .slice none 0 0] := k27_mk w fY (A1 := none) (c1 := 0) (Nat.le_refl _) C_no (A2 := none) (c2 := 0) (Nat.le_refl _) C_no
  have cell : ∀ i u, (#[Value.int .i64 1, .slice (some ⟨g1, 0, none⟩) 1 1, .slice none 0 0, .int .i64 2, .slice none 0 0, .slice none 0 0, .int .i64 1, .slice (some ⟨g1, 0, none⟩) 1 1, .slice none 0 0] : Array Value)[i]? = some u → w.cell? ⟨g, i, none⟩ = some u := fun i u h => (blk_cell hb i).trans h
  have e3 : k27.sz = 3 := rfl
  refine ⟨rfl, by simp, fun _ => ⟨_, rfl, fun q p hp => ?_⟩⟩
  match q, hp with
  | 0, hp =>
    obtain rfl : fX = p := by simpa using hp
    refine ⟨_, rfl, kX, fun i u hu => ?_⟩
    rw [e3, add_at]
    match i, hu with
    | 0, hu => exact cell 0 u hu
    | 1, hu => exact cell 1 u hu
    | 2, hu => exact cell 2 u hu
    | i + 3, hu => simp at hu
  | 1, hp =>
    obtain rfl : fY = p := by simpa using hp
    refine ⟨_, rfl, kY, fun i u hu => ?_⟩
    rw [e3, add_at]
    match i, hu with
    | 0, hu => exact cell 3 u hu
    | 1, hu => exact cell 4 u hu
    | 2, hu => exact cell 5 u hu
    | i + 3, hu => simp at hu
  | 2, hp =>
    obtain rfl : fX = p := by simpa using hp
    refine ⟨_, rfl, kX, fun i u hu => ?_⟩
    rw [e3, add_at]
    match i, hu with
    | 0, hu => exact cell 6 u hu
    | 1, hu => exact cell 7 u hu
    | 2, hu => exact cell 8 u hu
    | i + 3, hu => simp at hu
  | q + 3, hp => simp at hp
theorem bagXYX : (bagOf ([fX, fY, fX].map m27)).map s40 = [⟨fX, 2⟩, ⟨fY, 1⟩] := by
  kernel_rfl
theorem countXY : fact_Count.f 10 [⟨fX, 2⟩, ⟨fY, 1⟩] = some 3 := by kernel_rfl
theorem checkX1 : fact_Check.f 1 0 1 [strA] [] = some 0 := by kernel_rfl
theorem checkX0 : fact_Check.f 0 0 1 [strA] [] = some 40 := by kernel_rfl
theorem compareXY : fact_Compare.f 20 1 [strA] [] 2 [] [] = some (-1) := by kernel_rfl
def gristmilllaw04_awake.f : Option Bool := some true
set_option maxRecDepth 100000 in
set_option maxHeartbeats 1600000 in
theorem gristmilllaw04_awake.calls (r : Bool) (w : World) (h : gristmilllaw04_awake.f = some r) :
    Calls Try.prog 9 #[] w fun e w' => e = .returned (.bool r) ∧ Below w.heap.size w w' := by
  injection h with h
  subst h
  go_enter Try.func9, Try.ntmps9
  go_upto_region 2 with (first
    | ((with_reducible refine gate_dst (N := 4) rfl ?_); refine row_event ?hg (N := 4) ?hd (cs := #[.string strA]) (t := 9) (n := 1) (c := 1) ?hr ?_; (case hd => rfl); (case hg => rfl); (case hr => first | (go_simp; done) | (go_simp; rfl)); intro g1 hg w1 hbox hb; have BK1 := Aside0.mk hbox; have HX1 := Aside0.mk hb; clear hg hbox hb)
    | (((with_reducible refine gate_dst (N := 1) rfl ?_); refine box_event ?hg (N := 1) ?hd (cs := #[.int .i64 0, .slice none 0 0, .slice none 0 0]) (t := 27) ?hr ?_; (case hd => rfl); (case hg => rfl); (case hr => first | (go_simp; done) | (go_simp; rfl)); intro g2 hg w2 hbox hb; have GE2 := Aside0.mk (Nat.le_of_eq hg.symm); have BK2 := Aside0.mk hbox; have HX2 := Aside0.mk hb; clear hg hbox hb); (have hg2_0 : w2.cell? ⟨g2, 0, none⟩ = some (.int .i64 0) := (blk_cell BK2.out 0).trans rfl; have hfg2_0 := blk_frozen BK2.out 0; have hg2_1 : w2.cell? ⟨g2, 1, none⟩ = some (.slice none 0 0) := (blk_cell BK2.out 1).trans rfl; have hfg2_1 := blk_frozen BK2.out 1; have hg2_2 : w2.cell? ⟨g2, 2, none⟩ = some (.slice none 0 0) := (blk_cell BK2.out 2).trans rfl; have hfg2_2 := blk_frozen BK2.out 2))
    | fail)
  have HX2a := Aside0.mk (show Below w1.heap.size w1 (((w2.setCell ⟨g2, 0, none⟩ (.int .i64 1)).setCell ⟨g2, 1, none⟩ (.slice (some ⟨g1, 0, none⟩) 1 1)).setCell ⟨g2, 2, none⟩ (.slice none 0 0)) from below_set (below_set (below_set HX2.out GE2.out) GE2.out) GE2.out)
  have BK2a := Aside0.mk (show (((w2.setCell ⟨g2, 0, none⟩ (.int .i64 1)).setCell ⟨g2, 1, none⟩ (.slice (some ⟨g1, 0, none⟩) 1 1)).setCell ⟨g2, 2, none⟩ (.slice none 0 0)).heap[g2]? = some (.cells #[.int .i64 1, .slice (some ⟨g1, 0, none⟩) 1 1, .slice none 0 0] 27 (0, 0)) from (blk_set (blk_set (blk_set BK2.out 0 _) 1 _) 2 _))
  clear hg2_0 hfg2_0 hg2_1 hfg2_1 hg2_2 hfg2_2 BK2 HX2
  generalize (((w2.setCell ⟨g2, 0, none⟩ (.int .i64 1)).setCell ⟨g2, 1, none⟩ (.slice (some ⟨g1, 0, none⟩) 1 1)).setCell ⟨g2, 2, none⟩ (.slice none 0 0)) = w3 at *
  have BK1a := Aside0.mk (blk_below BK1.out HX2a.out)
  have HB3 := Aside0.mk (below_then HX1.out HX1.out.size HX2a.out)
  clear BK1 HX1 HX2a GE2
  go_upto_region 3 with (first
    | (((with_reducible refine gate_dst (N := 2) rfl ?_); refine box_event ?hg (N := 2) ?hd (cs := #[.int .i64 0, .slice none 0 0, .slice none 0 0]) (t := 27) ?hr ?_; (case hd => rfl); (case hg => rfl); (case hr => first | (go_simp; done) | (go_simp; rfl)); intro g4 hg w4 hbox hb; have GE4 := Aside0.mk (Nat.le_of_eq hg.symm); have BK4 := Aside0.mk hbox; have HX4 := Aside0.mk hb; clear hg hbox hb); (have hg4_0 : w4.cell? ⟨g4, 0, none⟩ = some (.int .i64 0) := (blk_cell BK4.out 0).trans rfl; have hfg4_0 := blk_frozen BK4.out 0; have hg4_1 : w4.cell? ⟨g4, 1, none⟩ = some (.slice none 0 0) := (blk_cell BK4.out 1).trans rfl; have hfg4_1 := blk_frozen BK4.out 1; have hg4_2 : w4.cell? ⟨g4, 2, none⟩ = some (.slice none 0 0) := (blk_cell BK4.out 2).trans rfl; have hfg4_2 := blk_frozen BK4.out 2))
    | fail)
  have HX4a := Aside0.mk (show Below w3.heap.size w3 (((w4.setCell ⟨g4, 0, none⟩ (.int .i64 2)).setCell ⟨g4, 1, none⟩ (.slice none 0 0)).setCell ⟨g4, 2, none⟩ (.slice none 0 0)) from below_set (below_set (below_set HX4.out GE4.out) GE4.out) GE4.out)
  have BK4a := Aside0.mk (show (((w4.setCell ⟨g4, 0, none⟩ (.int .i64 2)).setCell ⟨g4, 1, none⟩ (.slice none 0 0)).setCell ⟨g4, 2, none⟩ (.slice none 0 0)).heap[g4]? = some (.cells #[.int .i64 2, .slice none 0 0, .slice none 0 0] 27 (0, 0)) from (blk_set (blk_set (blk_set BK4.out 0 _) 1 _) 2 _))
  clear hg4_0 hfg4_0 hg4_1 hfg4_1 hg4_2 hfg4_2 BK4 HX4
  generalize (((w4.setCell ⟨g4, 0, none⟩ (.int .i64 2)).setCell ⟨g4, 1, none⟩ (.slice none 0 0)).setCell ⟨g4, 2, none⟩ (.slice none 0 0)) = w5 at *
  have BK1b := Aside0.mk (blk_below BK1a.out HX4a.out)
  have BK2b := Aside0.mk (blk_below BK2a.out HX4a.out)
  have HB5 := Aside0.mk (below_then HB3.out HB3.out.size HX4a.out)
  clear BK1a BK2a HB3 HX4a GE4
  (have hg2_0 : w5.cell? ⟨g2, 0, none⟩ = some (.int .i64 1) := (blk_cell BK2b.out 0).trans rfl; have hfg2_0 := blk_frozen BK2b.out 0; have hg2_1 : w5.cell? ⟨g2, 1, none⟩ = some (.slice (some ⟨g1, 0, none⟩) 1 1) := (blk_cell BK2b.out 1).trans rfl; have hfg2_1 := blk_frozen BK2b.out 1; have hg2_2 : w5.cell? ⟨g2, 2, none⟩ = some (.slice none 0 0) := (blk_cell BK2b.out 2).trans rfl; have hfg2_2 := blk_frozen BK2b.out 2)
  (have hg4_0 : w5.cell? ⟨g4, 0, none⟩ = some (.int .i64 2) := (blk_cell BK4a.out 0).trans rfl; have hfg4_0 := blk_frozen BK4a.out 0; have hg4_1 : w5.cell? ⟨g4, 1, none⟩ = some (.slice none 0 0) := (blk_cell BK4a.out 1).trans rfl; have hfg4_1 := blk_frozen BK4a.out 1; have hg4_2 : w5.cell? ⟨g4, 2, none⟩ = some (.slice none 0 0) := (blk_cell BK4a.out 2).trans rfl; have hfg4_2 := blk_frozen BK4a.out 2)
  go_upto_region 4 with (first
    | ((with_reducible refine gate_dst (N := 10) rfl ?_); refine row_event ?hg (N := 10) ?hd (cs := #[.int .i64 1, .slice (some ⟨g1, 0, none⟩) 1 1, .slice none 0 0, .int .i64 2, .slice none 0 0, .slice none 0 0, .int .i64 1, .slice (some ⟨g1, 0, none⟩) 1 1, .slice none 0 0]) (t := 27) (n := 3) (c := 3) ?hr ?_; (case hd => rfl); (case hg => rfl); (case hr => first | (go_simp; done) | (go_simp; rfl)); intro g6 hg w6 hbox hb; have BK6 := Aside0.mk hbox; have HX6 := Aside0.mk hb; clear hg hbox hb)
    | (go_at_call 16; refine (fact_Bag.calls (some ⟨g6, 0, none⟩) 3 [fX, fY, fX] _ w6 (C_facts3 BK6.out (C_strs1 (blk_below BK1b.out HX6.out))) (Nat.le_refl _) (by unfold fact_Bag.f; rw [if_pos ⟨by decide, by decide⟩, bagXYX])).mono ?_; rintro e w7 ⟨v7, rfl, hr7, hb7⟩; rcases R_cases hr7 with ⟨-, h0⟩ | ⟨g7, c7, rfl, -, -⟩; (case inl => cases h0); have HR7 := Aside0.mk hr7; have HX7 := Aside0.mk (below_then HX6.out HX6.out.size hb7); clear hr7 hb7)
    | fail)
  have BK1p := Aside0.mk (blk_below BK1b.out HX7.out)
  have BK2p := Aside0.mk (blk_below BK2b.out HX7.out)
  have BK4p := Aside0.mk (blk_below BK4a.out HX7.out)
  have HBp := Aside0.mk (below_then HB5.out HB5.out.size HX7.out)
  have HRp := HR7
  clear BK1b BK2b BK4a HB5 HX7 HR7
  clear hg2_0 hfg2_0 hg2_1 hfg2_1 hg2_2 hfg2_2
  clear hg4_0 hfg4_0 hg4_1 hfg4_1 hg4_2 hfg4_2
  (have hg2_0 : w7.cell? ⟨g2, 0, none⟩ = some (.int .i64 1) := (blk_cell BK2p.out 0).trans rfl; have hfg2_0 := blk_frozen BK2p.out 0; have hg2_1 : w7.cell? ⟨g2, 1, none⟩ = some (.slice (some ⟨g1, 0, none⟩) 1 1) := (blk_cell BK2p.out 1).trans rfl; have hfg2_1 := blk_frozen BK2p.out 1; have hg2_2 : w7.cell? ⟨g2, 2, none⟩ = some (.slice none 0 0) := (blk_cell BK2p.out 2).trans rfl; have hfg2_2 := blk_frozen BK2p.out 2)
  (have hg4_0 : w7.cell? ⟨g4, 0, none⟩ = some (.int .i64 2) := (blk_cell BK4p.out 0).trans rfl; have hfg4_0 := blk_frozen BK4p.out 0; have hg4_1 : w7.cell? ⟨g4, 1, none⟩ = some (.slice none 0 0) := (blk_cell BK4p.out 1).trans rfl; have hfg4_1 := blk_frozen BK4p.out 1; have hg4_2 : w7.cell? ⟨g4, 2, none⟩ = some (.slice none 0 0) := (blk_cell BK4p.out 2).trans rfl; have hfg4_2 := blk_frozen BK4p.out 2)
  have hC7 : Kd.C k40 w7 (some ⟨g7, 0, none⟩) 2 [⟨fX, 2⟩, ⟨fY, 1⟩] := (Kd.R_reads' HRp.out).2.2
  have n0 : w7.cell? ⟨g7, 3, none⟩ = some (.int .u64 2) := by
    obtain ⟨ad, A1, c1, A2, c2, e, -, -, -, d3, -⟩ := at_T40 hC7 0 (by decide) (by decide)
    injection e with e
    subst e
    exact d3
  have n1 : w7.cell? ⟨g7, 7, none⟩ = some (.int .u64 1) := by
    obtain ⟨ad, A1, c1, A2, c2, e, -, -, -, d3, -⟩ := at_T40 hC7 1 (by decide) (by decide)
    injection e with e
    subst e
    exact d3
  clear hC7
  go_wp2_with (first
    | (go_at_call 14; refine (fact_Compare.calls 20 1 (some ⟨g1, 0, none⟩) 1 [strA] none 0 [] 2 none 0 [] none 0 [] (-1) w7 (C_strs1 BK1p.out) (Nat.le_refl _) C_no (Nat.le_refl _) C_no (Nat.le_refl _) C_no (Nat.le_refl _) compareXY).mono ?_; rintro e w8 ⟨rfl, hb⟩; have BK1q := Aside0.mk (blk_below BK1p.out hb); have BK2q := Aside0.mk (blk_below BK2p.out hb); have BK4q := Aside0.mk (blk_below BK4p.out hb); have HRq := Aside0.mk (Kd.R_below HRp.out hb); have HBq := Aside0.mk (below_then HBp.out HBp.out.size hb); replace n0 := pw_cell_below hb n0; replace n1 := pw_cell_below hb n1; clear hg2_0 hfg2_0 hg2_1 hfg2_1 hg2_2 hfg2_2; clear hg4_0 hfg4_0 hg4_1 hfg4_1 hg4_2 hfg4_2; (have hg2_0 : w8.cell? ⟨g2, 0, none⟩ = some (.int .i64 1) := (blk_cell BK2q.out 0).trans rfl; have hfg2_0 := blk_frozen BK2q.out 0; have hg2_1 : w8.cell? ⟨g2, 1, none⟩ = some (.slice (some ⟨g1, 0, none⟩) 1 1) := (blk_cell BK2q.out 1).trans rfl; have hfg2_1 := blk_frozen BK2q.out 1; have hg2_2 : w8.cell? ⟨g2, 2, none⟩ = some (.slice none 0 0) := (blk_cell BK2q.out 2).trans rfl; have hfg2_2 := blk_frozen BK2q.out 2); (have hg4_0 : w8.cell? ⟨g4, 0, none⟩ = some (.int .i64 2) := (blk_cell BK4q.out 0).trans rfl; have hfg4_0 := blk_frozen BK4q.out 0; have hg4_1 : w8.cell? ⟨g4, 1, none⟩ = some (.slice none 0 0) := (blk_cell BK4q.out 1).trans rfl; have hfg4_1 := blk_frozen BK4q.out 1; have hg4_2 : w8.cell? ⟨g4, 2, none⟩ = some (.slice none 0 0) := (blk_cell BK4q.out 2).trans rfl; have hfg4_2 := blk_frozen BK4q.out 2); clear hb)
    | (go_at_call 17; refine (fact_Count.calls 10 (some ⟨g7, 0, none⟩) c7 [⟨fX, 2⟩, ⟨fY, 1⟩] 3 w8 (Kd.R_reads' HRq.out).2.2 (Kd.R_reads' HRq.out).2.1 countXY).mono ?_; rintro e w9 ⟨rfl, hb⟩; have BK1r := Aside0.mk (blk_below BK1q.out hb); have BK2r := Aside0.mk (blk_below BK2q.out hb); have BK4r := Aside0.mk (blk_below BK4q.out hb); have HRr := Aside0.mk (Kd.R_below HRq.out hb); have HBr := Aside0.mk (below_then HBq.out HBq.out.size hb); replace n0 := pw_cell_below hb n0; replace n1 := pw_cell_below hb n1; clear hg2_0 hfg2_0 hg2_1 hfg2_1 hg2_2 hfg2_2; clear hg4_0 hfg4_0 hg4_1 hfg4_1 hg4_2 hfg4_2; (have hg2_0 : w9.cell? ⟨g2, 0, none⟩ = some (.int .i64 1) := (blk_cell BK2r.out 0).trans rfl; have hfg2_0 := blk_frozen BK2r.out 0; have hg2_1 : w9.cell? ⟨g2, 1, none⟩ = some (.slice (some ⟨g1, 0, none⟩) 1 1) := (blk_cell BK2r.out 1).trans rfl; have hfg2_1 := blk_frozen BK2r.out 1; have hg2_2 : w9.cell? ⟨g2, 2, none⟩ = some (.slice none 0 0) := (blk_cell BK2r.out 2).trans rfl; have hfg2_2 := blk_frozen BK2r.out 2); (have hg4_0 : w9.cell? ⟨g4, 0, none⟩ = some (.int .i64 2) := (blk_cell BK4r.out 0).trans rfl; have hfg4_0 := blk_frozen BK4r.out 0; have hg4_1 : w9.cell? ⟨g4, 1, none⟩ = some (.slice none 0 0) := (blk_cell BK4r.out 1).trans rfl; have hfg4_1 := blk_frozen BK4r.out 1; have hg4_2 : w9.cell? ⟨g4, 2, none⟩ = some (.slice none 0 0) := (blk_cell BK4r.out 2).trans rfl; have hfg4_2 := blk_frozen BK4r.out 2); clear hb)
    | (go_at_call 12; (fail_if_success (have := HBs)); refine (fact_Check.calls 1 0 1 (some ⟨g1, 0, none⟩) 1 [strA] none 0 [] 0 w9 (C_strs1 BK1r.out) (Nat.le_refl _) C_no (Nat.le_refl _) checkX1).mono ?_; rintro e w10 ⟨rfl, hb⟩; have BK1s := Aside0.mk (blk_below BK1r.out hb); have BK2s := Aside0.mk (blk_below BK2r.out hb); have BK4s := Aside0.mk (blk_below BK4r.out hb); have HRs := Aside0.mk (Kd.R_below HRr.out hb); have HBs := Aside0.mk (below_then HBr.out HBr.out.size hb); replace n0 := pw_cell_below hb n0; replace n1 := pw_cell_below hb n1; clear hg2_0 hfg2_0 hg2_1 hfg2_1 hg2_2 hfg2_2; clear hg4_0 hfg4_0 hg4_1 hfg4_1 hg4_2 hfg4_2; (have hg2_0 : w10.cell? ⟨g2, 0, none⟩ = some (.int .i64 1) := (blk_cell BK2s.out 0).trans rfl; have hfg2_0 := blk_frozen BK2s.out 0; have hg2_1 : w10.cell? ⟨g2, 1, none⟩ = some (.slice (some ⟨g1, 0, none⟩) 1 1) := (blk_cell BK2s.out 1).trans rfl; have hfg2_1 := blk_frozen BK2s.out 1; have hg2_2 : w10.cell? ⟨g2, 2, none⟩ = some (.slice none 0 0) := (blk_cell BK2s.out 2).trans rfl; have hfg2_2 := blk_frozen BK2s.out 2); (have hg4_0 : w10.cell? ⟨g4, 0, none⟩ = some (.int .i64 2) := (blk_cell BK4s.out 0).trans rfl; have hfg4_0 := blk_frozen BK4s.out 0; have hg4_1 : w10.cell? ⟨g4, 1, none⟩ = some (.slice none 0 0) := (blk_cell BK4s.out 1).trans rfl; have hfg4_1 := blk_frozen BK4s.out 1; have hg4_2 : w10.cell? ⟨g4, 2, none⟩ = some (.slice none 0 0) := (blk_cell BK4s.out 2).trans rfl; have hfg4_2 := blk_frozen BK4s.out 2); clear hb)
    | (go_at_call 12; refine (fact_Check.calls 0 0 1 (some ⟨g1, 0, none⟩) 1 [strA] none 0 [] 40 w10 (C_strs1 BK1s.out) (Nat.le_refl _) C_no (Nat.le_refl _) checkX0).mono ?_; rintro e w11 ⟨rfl, hb⟩; have BK1t := Aside0.mk (blk_below BK1s.out hb); have BK2t := Aside0.mk (blk_below BK2s.out hb); have BK4t := Aside0.mk (blk_below BK4s.out hb); have HRt := Aside0.mk (Kd.R_below HRs.out hb); have HBt := Aside0.mk (below_then HBs.out HBs.out.size hb); replace n0 := pw_cell_below hb n0; replace n1 := pw_cell_below hb n1; clear hg2_0 hfg2_0 hg2_1 hfg2_1 hg2_2 hfg2_2; clear hg4_0 hfg4_0 hg4_1 hfg4_1 hg4_2 hfg4_2; (have hg2_0 : w11.cell? ⟨g2, 0, none⟩ = some (.int .i64 1) := (blk_cell BK2t.out 0).trans rfl; have hfg2_0 := blk_frozen BK2t.out 0; have hg2_1 : w11.cell? ⟨g2, 1, none⟩ = some (.slice (some ⟨g1, 0, none⟩) 1 1) := (blk_cell BK2t.out 1).trans rfl; have hfg2_1 := blk_frozen BK2t.out 1; have hg2_2 : w11.cell? ⟨g2, 2, none⟩ = some (.slice none 0 0) := (blk_cell BK2t.out 2).trans rfl; have hfg2_2 := blk_frozen BK2t.out 2); (have hg4_0 : w11.cell? ⟨g4, 0, none⟩ = some (.int .i64 2) := (blk_cell BK4t.out 0).trans rfl; have hfg4_0 := blk_frozen BK4t.out 0; have hg4_1 : w11.cell? ⟨g4, 1, none⟩ = some (.slice none 0 0) := (blk_cell BK4t.out 1).trans rfl; have hfg4_1 := blk_frozen BK4t.out 1; have hg4_2 : w11.cell? ⟨g4, 2, none⟩ = some (.slice none 0 0) := (blk_cell BK4t.out 2).trans rfl; have hfg4_2 := blk_frozen BK4t.out 2); clear hb)
    | fail)
  go_ret
  exact ⟨rfl, HBt.out⟩
end Go.Proofs.Ytfeeahjaeapkoaa.P
end

section
namespace Go.Proofs.Ytfeeahjaeapkoaa.P
open Go.RowKit Go.Proofs.YtfeeahjaeapkoaaW.PrintWords Go.Proofs.YtfeeahjaeapkoaaW.PrintLast Go.Proofs.YtfeeahjaeapkoaaW.PrintMore
attribute [local go_sem] max2_int min2_int max_two min_two max_three min_three max_four min_four   -- for this text's walks alone
set_option linter.unusedVariables false
set_option linter.unusedSimpArgs false
open Go.Proofs.Ytfeeahjaeapkoaa.Ext (q1_ q2_ q3_)
attribute [local go_sem high] Go.Proofs.Ytfeeahjaeapkoaa.Ext.gtr_str Go.Proofs.Ytfeeahjaeapkoaa.Ext.leq_str Go.Proofs.Ytfeeahjaeapkoaa.Ext.geq_str
def gristmilllaw04_FactChecks.f (k : Nat) (a0_0 : Int) (a0_1 : Int) (a1_0 : Int) (l1_1 : List ByteArray) (l1_2 : List Int) (a2_0 : Int) (l2_1 : List ByteArray) (l2_2 : List Int) : Option (Bool) := (gristmilllaw04_awake.f).bind fun t146 => (if t146 = true then ((gristmillref04_Fine.f a0_0 a0_1).bind fun t147 => ((fact_Fine.f a0_0 a0_1).bind fun t148 => (if ((t148 == 0) == t147) = true then (if t147 = true then ((fact_Check.f a0_0 a0_1 a1_0 l1_1 l1_2).bind fun t149 => ((gristmillref04_Check.f k a0_0 a0_1 a1_0 l1_1 l1_2).bind fun t150 => (if t149 = t150 then ((fact_Compare.f k a1_0 l1_1 l1_2 a2_0 l2_1 l2_2).bind fun t151 => ((gristmillref04_Compare.f k a1_0 l1_1 l1_2 a2_0 l2_1 l2_2).bind fun t152 => (if t151 = t152 then ((fact_Compare.f k a1_0 l1_1 l1_2 a1_0 l1_1 l1_2).bind fun t153 => (some (t153 == 0))) else (some false)))) else (some false)))) else ((fact_Fine.f a0_0 a0_1).bind fun t154 => (if t154 = 1 then ((fact_Check.f a0_0 a0_1 a1_0 l1_1 l1_2).bind fun t155 => ((gristmillref04_Check.f k a0_0 a0_1 a1_0 l1_1 l1_2).bind fun t156 => (if t155 = t156 then ((fact_Compare.f k a1_0 l1_1 l1_2 a2_0 l2_1 l2_2).bind fun t157 => ((gristmillref04_Compare.f k a1_0 l1_1 l1_2 a2_0 l2_1 l2_2).bind fun t158 => (if t157 = t158 then ((fact_Compare.f k a1_0 l1_1 l1_2 a1_0 l1_1 l1_2).bind fun t159 => (some (t159 == 0))) else (some false)))) else (some false)))) else (some false)))) else (some false)))) else (some false))
def gristmilllaw04_FactChecks.T5 : Bool × List (List Nat × List Nat) := (true, [([], []), ([0], [0]), ([1], [1]), ([], []), ([2, 3], [2, 3]), ([4, 1], [4]), ([5], [5]), ([6, 5, 5], [5, 6]), ([7], [7]), ([8, 7, 7], [7, 8]), ([9, 7], [7, 9]), ([7, 10, 5], [5, 7, 10]), ([5, 11], [5, 11]), ([12, 9], [12]), ([13], [13]), ([13], [13]), ([14, 15, 13, 13], [13, 14, 15]), ([13], [13]), ([13], [13]), ([17, 18, 16, 13], [13, 17, 18]), ([16, 19, 13], [13, 16, 19]), ([13, 20], [13, 20]), ([21, 19], [21]), ([22], [22]), ([22], [22]), ([23, 24, 22, 22], [22, 23, 24]), ([22], [22]), ([22], [22]), ([26, 27, 25, 22], [22, 26, 27]), ([25, 28, 22], [22, 25, 28]), ([22, 29], [22, 29]), ([30, 28], [30]), ([31], [31]), ([31], [31]), ([32, 33, 31, 31], [31, 32, 33]), ([34, 31], [31, 34]), ([31, 35], [31, 35]), ([36, 34, 0, 1, 2, 3, 4, 5, 6, 7, 8, 9, 10, 11, 12, 13, 14, 15, 16, 17, 18, 19, 20, 21, 22, 23, 24, 25, 26, 27, 28, 29, 30, 31, 32, 33, 34, 35, 36], [36])])
def gristmilllaw04_FactChecks.B5 : List Nat := [0, 1, 3, 0, 15, 31, 63, 127, 255, 511, 1023, 2047, 4095, 8191, 16383, 16383, 65535, 16383, 16383, 524287, 1048575, 2097151, 4194303, 8388607, 8388607, 33554431, 8388607, 8388607, 268435455, 536870911, 1073741823, 2147483647, 4294967295, 4294967295, 17179869183, 34359738367, 68719476735, 137438953471]
theorem gristmilllaw04_FactChecks.tab5 : rtab .any (opsOf Try.f3 5) = gristmilllaw04_FactChecks.T5 := by kernel_rfl
theorem gristmilllaw04_FactChecks.bits5 : waitsOk gristmilllaw04_FactChecks.T5.2 gristmilllaw04_FactChecks.B5 = true := by kernel_rfl
end Go.Proofs.Ytfeeahjaeapkoaa.P
end
