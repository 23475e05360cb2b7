/- Texts of this repo, joined, without what this claim does not use: FExtAwake, FSpanLaw, FExtJoin, FSpoil, FOwnLaw, OpenK, OpenFact, OpenF2, OpenF3, LawFactOwn. -/
import Derived.Test.YtfeeahjaeapkoaaDFactOwn1
import Derived.Test.YtfeeahjaeapkoaaDFactOwn2
import Derived.Test.YtfeeahjaeapkoaaDFactOwn3
import Derived.SizedLaws
import Derived.Deep.Slices
import Derived.Test.YtfeeahjaeapkoaaRows
import Derived.ProofKit
import Derived.OpenShut
section
namespace Go.Proofs.Ytfeeahjaeapkoaa.P
set_option linter.unusedVariables false
set_option linter.unusedSimpArgs false
open Go.RowKit Go.Proofs.YtfeeahjaeapkoaaW.PrintWords Go.Proofs.YtfeeahjaeapkoaaW.PrintLast Go.Proofs.YtfeeahjaeapkoaaW.PrintMore Go.Proofs.Ytfeeahjaeapkoaa.Lib Go.Proofs.Ytfeeahjaeapkoaa.Ext
section
variable {P : Program} {ops : Array Oper} {o : Oper} {a : Act} {Q : Exit → Act → World → Prop}
theorem row_event {rest : List Oper} {W : World} (hgd : o.guard = none) {N : Tmp} (_hd : o.dst = some N) {cs : Array Value} {t : TypeId} {n c : Nat}
    (hrun : (execOp a.eval o).run P W = .ok (.value (.slice (some ⟨W.heap.size, 0, none⟩) n c)) (W.alloc (.cells cs t (0, 0))))
    (h : ∀ g, g = W.heap.size → ∀ w1, w1.heap[g]? = some (.cells cs t (0, 0)) → Below W.heap.size W w1 → wpList P ops Q rest (a.put o.dst (.slice (some ⟨g, 0, none⟩) n c)) w1) : wpList P ops Q (o :: rest) a W :=
  Kd.event_run hgd hrun (h _ rfl _ (blk_new W _) (below_alloc (Below.refl _ _) _))
end
theorem C_no {α : Type} {d : Kd α} {w : World} : Kd.C d w none 0 [] := ⟨rfl, by decide, fun h => absurd h (Nat.lt_irrefl 0)⟩
def strA : ByteArray := ⟨#[97]⟩
def fX : S27 := ⟨1, [strA], []⟩
def fY : S27 := ⟨2, [], []⟩
theorem C_strs1 {w : World} {g : Nat} {s : ByteArray} {E : Nat} (hb : w.heap[g]? = some (.cells #[.string s] E (0, 0))) : Kd.string.C w (some ⟨g, 0, none⟩) 1 [s] := by
  refine ⟨rfl, by simp, fun _ => ⟨_, rfl, fun q p hp => ?_⟩⟩
  match q, hp with
  | 0, hp =>
    obtain rfl : s = p := by simpa using hp
    refine ⟨[.string s], rfl, rfl, fun i u hu => ?_⟩
    match i, hu with
    | 0, hu =>
      obtain rfl : Value.string s = u := by simpa using hu
      exact (blk_cell hb 0).trans rfl
    | i + 1, hu => simp at hu
  | q + 1, hp => simp at hp
theorem C_facts3 {w : World} {g g1 : Nat} {E : Nat} (hb : w.heap[g]? = some (.cells #[.int .i64 1, .slice (some ⟨g1, 0, none⟩) 1 1, .slice none 0 0, .int .i64 2, .slice none 0 0, .slice none 0 0, .int .i64 1, .slice (some ⟨g1, 0, none⟩) 1 1, .slice none 0 0] E (0, 0))) (hs : Kd.string.C w (some ⟨g1, 0, none⟩) 1 [strA]) : Kd.C k27 w (some ⟨g, 0, none⟩) 3 [fX, fY, fX] := by
  have kX : k27.K w fX [.int .i64 1, .slice (some ⟨g1, 0, none⟩) 1 1, .slice none 0 0] := k27_mk w fX (A1 := some ⟨g1, 0, none⟩) (c1 := 1) (Nat.le_refl _) hs (A2 := none) (c2 := 0) (Nat.le_refl _) C_no
  have kY : k27.K w fY [.int .i64 2, .slice none 0 0, .slice none 0 0] := k27_mk w fY (A1 := none) (c1 := 0) (Nat.le_refl _) C_no (A2 := none) (c2 := 0) (Nat.le_refl _) C_no
  have cell : ∀ i u, (#[Value.int .i64 1, .slice (some ⟨g1, 0, none⟩) 1 1, .slice none 0 0, .int .i64 2, .slice none 0 0, .slice none 0 0, .int .i64 1, .slice (some ⟨g1, 0, none⟩) 1 1, .slice none 0 0] : Array Value)[i]? = some u → w.cell? ⟨g, i, none⟩ = some u := fun i u h => (blk_cell hb i).trans h
  have e3 : k27.sz = 3 := rfl
  refine ⟨rfl, by simp, fun _ => ⟨_, rfl, fun q p hp => ?_⟩⟩
  match q, hp with
  | 0, hp =>
    obtain rfl : fX = p := by simpa using hp
    refine ⟨_, rfl, kX, fun i u hu => ?_⟩
    rw [e3, add_at]
    match i, hu with
    | 0, hu => exact cell 0 u hu
    | 1, hu => exact cell 1 u hu
    | 2, hu => exact cell 2 u hu
    | i + 3, hu => simp at hu
  | 1, hp =>
    obtain rfl : fY = p := by simpa using hp
    refine ⟨_, rfl, kY, fun i u hu => ?_⟩
    rw [e3, add_at]
    match i, hu with
    | 0, hu => exact cell 3 u hu
    | 1, hu => exact cell 4 u hu
    | 2, hu => exact cell 5 u hu
    | i + 3, hu => simp at hu
  | 2, hp =>
    obtain rfl : fX = p := by simpa using hp
    refine ⟨_, rfl, kX, fun i u hu => ?_⟩
    rw [e3, add_at]
    match i, hu with
    | 0, hu => exact cell 6 u hu
    | 1, hu => exact cell 7 u hu
    | 2, hu => exact cell 8 u hu
    | i + 3, hu => simp at hu
  | q + 3, hp => simp at hp
theorem bagXYX : (bagOf ([fX, fY, fX].map m27)).map s40 = [⟨fX, 2⟩, ⟨fY, 1⟩] := by
  kernel_rfl
theorem countXY : fact_Count.f 10 [⟨fX, 2⟩, ⟨fY, 1⟩] = some 3 := by kernel_rfl
theorem checkX1 : fact_Check.f 1 0 1 [strA] [] = some 0 := by kernel_rfl
theorem checkX0 : fact_Check.f 0 0 1 [strA] [] = some 40 := by kernel_rfl
theorem compareXY : fact_Compare.f 20 1 [strA] [] 2 [] [] = some (-1) := by kernel_rfl
def gristmilllaw04_awake.f : Option Bool := some true
set_option maxRecDepth 100000 in
set_option maxHeartbeats 1600000 in
theorem gristmilllaw04_awake.calls (r : Bool) (w : World) (h : gristmilllaw04_awake.f = some r) :
    Calls Try.prog 9 #[] w fun e w' => e = .returned (.bool r) ∧ Below w.heap.size w w' := by
  injection h with h
  subst h
  go_enter Try.func9, Try.ntmps9
  go_upto_region 2 with (first
    | ((with_reducible refine gate_dst (N := 4) rfl ?_); refine row_event ?hg (N := 4) ?hd (cs := #[.string strA]) (t := 9) (n := 1) (c := 1) ?hr ?_; (case hd => rfl); (case hg => rfl); (case hr => first | (go_simp; done) | (go_simp; rfl)); intro g1 hg w1 hbox hb; have BK1 := Aside0.mk hbox; have HX1 := Aside0.mk hb; clear hg hbox hb)
    | (((with_reducible refine gate_dst (N := 1) rfl ?_); refine box_event ?hg (N := 1) ?hd (cs := #[.int .i64 0, .slice none 0 0, .slice none 0 0]) (t := 27) ?hr ?_; (case hd => rfl); (case hg => rfl); (case hr => first | (go_simp; done) | (go_simp; rfl)); intro g2 hg w2 hbox hb; have GE2 := Aside0.mk (Nat.le_of_eq hg.symm); have BK2 := Aside0.mk hbox; have HX2 := Aside0.mk hb; clear hg hbox hb); (have hg2_0 : w2.cell? ⟨g2, 0, none⟩ = some (.int .i64 0) := (blk_cell BK2.out 0).trans rfl; have hfg2_0 := blk_frozen BK2.out 0; have hg2_1 : w2.cell? ⟨g2, 1, none⟩ = some (.slice none 0 0) := (blk_cell BK2.out 1).trans rfl; have hfg2_1 := blk_frozen BK2.out 1; have hg2_2 : w2.cell? ⟨g2, 2, none⟩ = some (.slice none 0 0) := (blk_cell BK2.out 2).trans rfl; have hfg2_2 := blk_frozen BK2.out 2))
    | fail)
  have HX2a := Aside0.mk (show Below w1.heap.size w1 (((w2.setCell ⟨g2, 0, none⟩ (.int .i64 1)).setCell ⟨g2, 1, none⟩ (.slice (some ⟨g1, 0, none⟩) 1 1)).setCell ⟨g2, 2, none⟩ (.slice none 0 0)) from below_set (below_set (below_set HX2.out GE2.out) GE2.out) GE2.out)
  have BK2a := Aside0.mk (show (((w2.setCell ⟨g2, 0, none⟩ (.int .i64 1)).setCell ⟨g2, 1, none⟩ (.slice (some ⟨g1, 0, none⟩) 1 1)).setCell ⟨g2, 2, none⟩ (.slice none 0 0)).heap[g2]? = some (.cells #[.int .i64 1, .slice (some ⟨g1, 0, none⟩) 1 1, .slice none 0 0] 27 (0, 0)) from (blk_set (blk_set (blk_set BK2.out 0 _) 1 _) 2 _))
  clear hg2_0 hfg2_0 hg2_1 hfg2_1 hg2_2 hfg2_2 BK2 HX2
  generalize (((w2.setCell ⟨g2, 0, none⟩ (.int .i64 1)).setCell ⟨g2, 1, none⟩ (.slice (some ⟨g1, 0, none⟩) 1 1)).setCell ⟨g2, 2, none⟩ (.slice none 0 0)) = w3 at *
  have BK1a := Aside0.mk (blk_below BK1.out HX2a.out)
  have HB3 := Aside0.mk (below_then HX1.out HX1.out.size HX2a.out)
  clear BK1 HX1 HX2a GE2
  go_upto_region 3 with (first
    | (((with_reducible refine gate_dst (N := 2) rfl ?_); refine box_event ?hg (N := 2) ?hd (cs := #[.int .i64 0, .slice none 0 0, .slice none 0 0]) (t := 27) ?hr ?_; (case hd => rfl); (case hg => rfl); (case hr => first | (go_simp; done) | (go_simp; rfl)); intro g4 hg w4 hbox hb; have GE4 := Aside0.mk (Nat.le_of_eq hg.symm); have BK4 := Aside0.mk hbox; have HX4 := Aside0.mk hb; clear hg hbox hb); (have hg4_0 : w4.cell? ⟨g4, 0, none⟩ = some (.int .i64 0) := (blk_cell BK4.out 0).trans rfl; have hfg4_0 := blk_frozen BK4.out 0; have hg4_1 : w4.cell? ⟨g4, 1, none⟩ = some (.slice none 0 0) := (blk_cell BK4.out 1).trans rfl; have hfg4_1 := blk_frozen BK4.out 1; have hg4_2 : w4.cell? ⟨g4, 2, none⟩ = some (.slice none 0 0) := (blk_cell BK4.out 2).trans rfl; have hfg4_2 := blk_frozen BK4.out 2))
    | fail)
  have HX4a := Aside0.mk (show Below w3.heap.size w3 (((w4.setCell ⟨g4, 0, none⟩ (.int .i64 2)).setCell ⟨g4, 1, none⟩ (.slice none 0 0)).setCell ⟨g4, 2, none⟩ (.slice none 0 0)) from below_set (below_set (below_set HX4.out GE4.out) GE4.out) GE4.out)
  have BK4a := Aside0.mk (show (((w4.setCell ⟨g4, 0, none⟩ (.int .i64 2)).setCell ⟨g4, 1, none⟩ (.slice none 0 0)).setCell ⟨g4, 2, none⟩ (.slice none 0 0)).heap[g4]? = some (.cells #[.int .i64 2, .slice none 0 0, .slice none 0 0] 27 (0, 0)) from (blk_set (blk_set (blk_set BK4.out 0 _) 1 _) 2 _))
  clear hg4_0 hfg4_0 hg4_1 hfg4_1 hg4_2 hfg4_2 BK4 HX4
  generalize (((w4.setCell ⟨g4, 0, none⟩ (.int .i64 2)).setCell ⟨g4, 1, none⟩ (.slice none 0 0)).setCell ⟨g4, 2, none⟩ (.slice none 0 0)) = w5 at *
  have BK1b := Aside0.mk (blk_below BK1a.out HX4a.out)
  have BK2b := Aside0.mk (blk_below BK2a.out HX4a.out)
  have HB5 := Aside0.mk (below_then HB3.out HB3.out.size HX4a.out)
  clear BK1a BK2a HB3 HX4a GE4
  (have hg2_0 : w5.cell? ⟨g2, 0, none⟩ = some (.int .i64 1) := (blk_cell BK2b.out 0).trans rfl; have hfg2_0 := blk_frozen BK2b.out 0; have hg2_1 : w5.cell? ⟨g2, 1, none⟩ = some (.slice (some ⟨g1, 0, none⟩) 1 1) := (blk_cell BK2b.out 1).trans rfl; have hfg2_1 := blk_frozen BK2b.out 1; have hg2_2 : w5.cell? ⟨g2, 2, none⟩ = some (.slice none 0 0) := (blk_cell BK2b.out 2).trans rfl; have hfg2_2 := blk_frozen BK2b.out 2)
  (have hg4_0 : w5.cell? ⟨g4, 0, none⟩ = some (.int .i64 2) := (blk_cell BK4a.out 0).trans rfl; have hfg4_0 := blk_frozen BK4a.out 0; have hg4_1 : w5.cell? ⟨g4, 1, none⟩ = some (.slice none 0 0) := (blk_cell BK4a.out 1).trans rfl; have hfg4_1 := blk_frozen BK4a.out 1; have hg4_2 : w5.cell? ⟨g4, 2, none⟩ = some (.slice none 0 0) := (blk_cell BK4a.out 2).trans rfl; have hfg4_2 := blk_frozen BK4a.out 2)
  go_upto_region 4 with (first
    | ((with_reducible refine gate_dst (N := 10) rfl ?_); refine row_event ?hg (N := 10) ?hd (cs := #[.int .i64 1, .slice (some ⟨g1, 0, none⟩) 1 1, .slice none 0 0, .int .i64 2, .slice none 0 0, .slice none 0 0, .int .i64 1, .slice (some ⟨g1, 0, none⟩) 1 1, .slice none 0 0]) (t := 27) (n := 3) (c := 3) ?hr ?_; (case hd => rfl); (case hg => rfl); (case hr => first | (go_simp; done) | (go_simp; rfl)); intro g6 hg w6 hbox hb; have BK6 := Aside0.mk hbox; have HX6 := Aside0.mk hb; clear hg hbox hb)
    | (go_at_call 16; refine (fact_Bag.calls (some ⟨g6, 0, none⟩) 3 [fX, fY, fX] _ w6 (C_facts3 BK6.out (C_strs1 (blk_below BK1b.out HX6.out))) (Nat.le_refl _) (by unfold fact_Bag.f; rw [if_pos ⟨by decide, by decide⟩, bagXYX])).mono ?_; rintro e w7 ⟨v7, rfl, hr7, hb7⟩; rcases R_cases hr7 with ⟨-, h0⟩ | ⟨g7, c7, rfl, -, -⟩; (case inl => cases h0); have HR7 := Aside0.mk hr7; have HX7 := Aside0.mk (below_then HX6.out HX6.out.size hb7); clear hr7 hb7)
    | fail)
  have BK1p := Aside0.mk (blk_below BK1b.out HX7.out)
  have BK2p := Aside0.mk (blk_below BK2b.out HX7.out)
  have BK4p := Aside0.mk (blk_below BK4a.out HX7.out)
  have HBp := Aside0.mk (below_then HB5.out HB5.out.size HX7.out)
  have HRp := HR7
  clear BK1b BK2b BK4a HB5 HX7 HR7
  clear hg2_0 hfg2_0 hg2_1 hfg2_1 hg2_2 hfg2_2
  clear hg4_0 hfg4_0 hg4_1 hfg4_1 hg4_2 hfg4_2
  (have hg2_0 : w7.cell? ⟨g2, 0, none⟩ = some (.int .i64 1) := (blk_cell BK2p.out 0).trans rfl; have hfg2_0 := blk_frozen BK2p.out 0; have hg2_1 : w7.cell? ⟨g2, 1, none⟩ = some (.slice (some ⟨g1, 0, none⟩) 1 1) := (blk_cell BK2p.out 1).trans rfl; have hfg2_1 := blk_frozen BK2p.out 1; have hg2_2 : w7.cell? ⟨g2, 2, none⟩ = some (.slice none 0 0) := (blk_cell BK2p.out 2).trans rfl; have hfg2_2 := blk_frozen BK2p.out 2)
  (have hg4_0 : w7.cell? ⟨g4, 0, none⟩ = some (.int .i64 2) := (blk_cell BK4p.out 0).trans rfl; have hfg4_0 := blk_frozen BK4p.out 0; have hg4_1 : w7.cell? ⟨g4, 1, none⟩ = some (.slice none 0 0) := (blk_cell BK4p.out 1).trans rfl; have hfg4_1 := blk_frozen BK4p.out 1; have hg4_2 : w7.cell? ⟨g4, 2, none⟩ = some (.slice none 0 0) := (blk_cell BK4p.out 2).trans rfl; have hfg4_2 := blk_frozen BK4p.out 2)
  have hC7 : Kd.C k40 w7 (some ⟨g7, 0, none⟩) 2 [⟨fX, 2⟩, ⟨fY, 1⟩] := (Kd.R_reads' HRp.out).2.2
  have n0 : w7.cell? ⟨g7, 3, none⟩ = some (.int .u64 2) := by
    obtain ⟨ad, A1, c1, A2, c2, e, -, -, -, d3, -⟩ := at_T40 hC7 0 (by decide) (by decide)
    injection e with e
    subst e
    exact d3
  have n1 : w7.cell? ⟨g7, 7, none⟩ = some (.int .u64 1) := by
    obtain ⟨ad, A1, c1, A2, c2, e, -, -, -, d3, -⟩ := at_T40 hC7 1 (by decide) (by decide)
    injection e with e
    subst e
    exact d3
  clear hC7
  go_wp2_with (first
    | (go_at_call 14; refine (fact_Compare.calls 20 1 (some ⟨g1, 0, none⟩) 1 [strA] none 0 [] 2 none 0 [] none 0 [] (-1) w7 (C_strs1 BK1p.out) (Nat.le_refl _) C_no (Nat.le_refl _) C_no (Nat.le_refl _) C_no (Nat.le_refl _) compareXY).mono ?_; rintro e w8 ⟨rfl, hb⟩; have BK1q := Aside0.mk (blk_below BK1p.out hb); have BK2q := Aside0.mk (blk_below BK2p.out hb); have BK4q := Aside0.mk (blk_below BK4p.out hb); have HRq := Aside0.mk (Kd.R_below HRp.out hb); have HBq := Aside0.mk (below_then HBp.out HBp.out.size hb); replace n0 := pw_cell_below hb n0; replace n1 := pw_cell_below hb n1; clear hg2_0 hfg2_0 hg2_1 hfg2_1 hg2_2 hfg2_2; clear hg4_0 hfg4_0 hg4_1 hfg4_1 hg4_2 hfg4_2; (have hg2_0 : w8.cell? ⟨g2, 0, none⟩ = some (.int .i64 1) := (blk_cell BK2q.out 0).trans rfl; have hfg2_0 := blk_frozen BK2q.out 0; have hg2_1 : w8.cell? ⟨g2, 1, none⟩ = some (.slice (some ⟨g1, 0, none⟩) 1 1) := (blk_cell BK2q.out 1).trans rfl; have hfg2_1 := blk_frozen BK2q.out 1; have hg2_2 : w8.cell? ⟨g2, 2, none⟩ = some (.slice none 0 0) := (blk_cell BK2q.out 2).trans rfl; have hfg2_2 := blk_frozen BK2q.out 2); (have hg4_0 : w8.cell? ⟨g4, 0, none⟩ = some (.int .i64 2) := (blk_cell BK4q.out 0).trans rfl; have hfg4_0 := blk_frozen BK4q.out 0; have hg4_1 : w8.cell? ⟨g4, 1, none⟩ = some (.slice none 0 0) := (blk_cell BK4q.out 1).trans rfl; have hfg4_1 := blk_frozen BK4q.out 1; have hg4_2 : w8.cell? ⟨g4, 2, none⟩ = some (.slice none 0 0) := (blk_cell BK4q.out 2).trans rfl; have hfg4_2 := blk_frozen BK4q.out 2); clear hb)
    | (go_at_call 17; refine (fact_Count.calls 10 (some ⟨g7, 0, none⟩) c7 [⟨fX, 2⟩, ⟨fY, 1⟩] 3 w8 (Kd.R_reads' HRq.out).2.2 (Kd.R_reads' HRq.out).2.1 countXY).mono ?_; rintro e w9 ⟨rfl, hb⟩; have BK1r := Aside0.mk (blk_below BK1q.out hb); have BK2r := Aside0.mk (blk_below BK2q.out hb); have BK4r := Aside0.mk (blk_below BK4q.out hb); have HRr := Aside0.mk (Kd.R_below HRq.out hb); have HBr := Aside0.mk (below_then HBq.out HBq.out.size hb); replace n0 := pw_cell_below hb n0; replace n1 := pw_cell_below hb n1; clear hg2_0 hfg2_0 hg2_1 hfg2_1 hg2_2 hfg2_2; clear hg4_0 hfg4_0 hg4_1 hfg4_1 hg4_2 hfg4_2; (have hg2_0 : w9.cell? ⟨g2, 0, none⟩ = some (.int .i64 1) := (blk_cell BK2r.out 0).trans rfl; have hfg2_0 := blk_frozen BK2r.out 0; have hg2_1 : w9.cell? ⟨g2, 1, none⟩ = some (.slice (some ⟨g1, 0, none⟩) 1 1) := (blk_cell BK2r.out 1).trans rfl; have hfg2_1 := blk_frozen BK2r.out 1; have hg2_2 : w9.cell? ⟨g2, 2, none⟩ = some (.slice none 0 0) := (blk_cell BK2r.out 2).trans rfl; have hfg2_2 := blk_frozen BK2r.out 2); (have hg4_0 : w9.cell? ⟨g4, 0, none⟩ = some (.int .i64 2) := (blk_cell BK4r.out 0).trans rfl; have hfg4_0 := blk_frozen BK4r.out 0; have hg4_1 : w9.cell? ⟨g4, 1, none⟩ = some (.slice none 0 0) := (blk_cell BK4r.out 1).trans rfl; have hfg4_1 := blk_frozen BK4r.out 1; have hg4_2 : w9.cell? ⟨g4, 2, none⟩ = some (.slice none 0 0) := (blk_cell BK4r.out 2).trans rfl; have hfg4_2 := blk_frozen BK4r.out 2); clear hb)
    | (go_at_call 12; (fail_if_success (have := HBs)); refine (fact_Check.calls 1 0 1 (some ⟨g1, 0, none⟩) 1 [strA] none 0 [] 0 w9 (C_strs1 BK1r.out) (Nat.le_refl _) C_no (Nat.le_refl _) checkX1).mono ?_; rintro e w10 ⟨rfl, hb⟩; have BK1s := Aside0.mk (blk_below BK1r.out hb); have BK2s := Aside0.mk (blk_below BK2r.out hb); have BK4s := Aside0.mk (blk_below BK4r.out hb); have HRs := Aside0.mk (Kd.R_below HRr.out hb); have HBs := Aside0.mk (below_then HBr.out HBr.out.size hb); replace n0 := pw_cell_below hb n0; replace n1 := pw_cell_below hb n1; clear hg2_0 hfg2_0 hg2_1 hfg2_1 hg2_2 hfg2_2; clear hg4_0 hfg4_0 hg4_1 hfg4_1 hg4_2 hfg4_2; (have hg2_0 : w10.cell? ⟨g2, 0, none⟩ = some (.int .i64 1) := (blk_cell BK2s.out 0).trans rfl; have hfg2_0 := blk_frozen BK2s.out 0; have hg2_1 : w10.cell? ⟨g2, 1, none⟩ = some (.slice (some ⟨g1, 0, none⟩) 1 1) := (blk_cell BK2s.out 1).trans rfl; have hfg2_1 := blk_frozen BK2s.out 1; have hg2_2 : w10.cell? ⟨g2, 2, none⟩ = some (.slice none 0 0) := (blk_cell BK2s.out 2).trans rfl; have hfg2_2 := blk_frozen BK2s.out 2); (have hg4_0 : w10.cell? ⟨g4, 0, none⟩ = some (.int .i64 2) := (blk_cell BK4s.out 0).trans rfl; have hfg4_0 := blk_frozen BK4s.out 0; have hg4_1 : w10.cell? ⟨g4, 1, none⟩ = some (.slice none 0 0) := (blk_cell BK4s.out 1).trans rfl; have hfg4_1 := blk_frozen BK4s.out 1; have hg4_2 : w10.cell? ⟨g4, 2, none⟩ = some (.slice none 0 0) := (blk_cell BK4s.out 2).trans rfl; have hfg4_2 := blk_frozen BK4s.out 2); clear hb)
    | (go_at_call 12; refine (fact_Check.calls 0 0 1 (some ⟨g1, 0, none⟩) 1 [strA] none 0 [] 40 w10 (C_strs1 BK1s.out) (Nat.le_refl _) C_no (Nat.le_refl _) checkX0).mono ?_; rintro e w11 ⟨rfl, hb⟩; have BK1t := Aside0.mk (blk_below BK1s.out hb); have BK2t := Aside0.mk (blk_below BK2s.out hb); have BK4t := Aside0.mk (blk_below BK4s.out hb); have HRt := Aside0.mk (Kd.R_below HRs.out hb); have HBt := Aside0.mk (below_then HBs.out HBs.out.size hb); replace n0 := pw_cell_below hb n0; replace n1 := pw_cell_below hb n1; clear hg2_0 hfg2_0 hg2_1 hfg2_1 hg2_2 hfg2_2; clear hg4_0 hfg4_0 hg4_1 hfg4_1 hg4_2 hfg4_2; (have hg2_0 : w11.cell? ⟨g2, 0, none⟩ = some (.int .i64 1) := (blk_cell BK2t.out 0).trans rfl; have hfg2_0 := blk_frozen BK2t.out 0; have hg2_1 : w11.cell? ⟨g2, 1, none⟩ = some (.slice (some ⟨g1, 0, none⟩) 1 1) := (blk_cell BK2t.out 1).trans rfl; have hfg2_1 := blk_frozen BK2t.out 1; have hg2_2 : w11.cell? ⟨g2, 2, none⟩ = some (.slice none 0 0) := (blk_cell BK2t.out 2).trans rfl; have hfg2_2 := blk_frozen BK2t.out 2); (have hg4_0 : w11.cell? ⟨g4, 0, none⟩ = some (.int .i64 2) := (blk_cell BK4t.out 0).trans rfl; have hfg4_0 := blk_frozen BK4t.out 0; have hg4_1 : w11.cell? ⟨g4, 1, none⟩ = some (.slice none 0 0) := (blk_cell BK4t.out 1).trans rfl; have hfg4_1 := blk_frozen BK4t.out 1; have hg4_2 : w11.cell? ⟨g4, 2, none⟩ = some (.slice none 0 0) := (blk_cell BK4t.out 2).trans rfl; have hfg4_2 := blk_frozen BK4t.out 2); clear hb)
    | fail)
  go_ret
  exact ⟨rfl, HBt.out⟩
end Go.Proofs.Ytfeeahjaeapkoaa.P
end

section
namespace Go.Proofs.Ytfeeahjaeapkoaa.Ext
set_option linter.unusedVariables false
set_option linter.unusedSimpArgs false
open Go.RowKit Go.Proofs.YtfeeahjaeapkoaaW.PrintWords Go.Proofs.Ytfeeahjaeapkoaa.P
theorem small_bag2 {l : List M} (hl : ∀ x ∈ l, Small x) : ∀ x ∈ bagOf l, Small x := fun x hx => by
  obtain ⟨z, hz, e⟩ := bagOf_mem hx
  unfold Small
  rw [e]
  exact hl z hz
theorem all_small40 {l : List M} (h : ∀ x ∈ l, Small x) : (l.map s40).all small40 = true := List.all_eq_true.2 fun y hy => by
  obtain ⟨x, hx, rfl⟩ := List.mem_map.1 hy
  unfold small40
  rw [decide_eq_true (show (s40 x).f0.f1.length ≤ 8796093022208 from (h x hx).1), decide_eq_true (show (s40 x).f0.f2.length ≤ 17592186044416 from (h x hx).2)]
  rfl
end Go.Proofs.Ytfeeahjaeapkoaa.Ext
end

section
namespace Go.Proofs.Ytfeeahjaeapkoaa.P
set_option linter.unusedVariables false
set_option linter.unusedSimpArgs false
open Go.RowKit Go.Proofs.YtfeeahjaeapkoaaW.PrintWords Go.Proofs.YtfeeahjaeapkoaaW.PrintLast Go.Proofs.YtfeeahjaeapkoaaW.PrintMore Go.Proofs.Ytfeeahjaeapkoaa.Lib Go.Proofs.Ytfeeahjaeapkoaa.Ext
section
variable {P : Program} {ops : Array Oper} {o : Oper} {a : Act} {Q : Exit → Act → World → Prop}
theorem row_event2 {rest : List Oper} {W : World} (hgd : o.guard = none) {N : Tmp} (_hd : o.dst = some N) {cs : Array Value} {t : TypeId} {n c : Nat}
    (hrun : (execOp a.eval o).run P W = .ok (.value (.slice (some ⟨W.heap.size, 0, none⟩) n c)) (W.alloc (.cells cs t (0, 0))))
    (h : ∀ g, g = W.heap.size → ∀ w1, w1.heap[g]? = some (.cells cs t (0, 0)) → Below W.heap.size W w1 → wpList P ops Q rest (a.put o.dst (.slice (some ⟨g, 0, none⟩) n c)) w1) : wpList P ops Q (o :: rest) a W :=
  Kd.event_run hgd hrun (h _ rfl _ (blk_new W _) (below_alloc (Below.refl _ _) _))
end
theorem Two.append {R : Q → M → Prop} : ∀ {a : List Q} {b : List M} {c : List Q} {d : List M}, Two R a b → Two R c d → Two R (a ++ c) (b ++ d)
  | [], [], _, _, _, h => h
  | q :: a, x :: b, c, d, h, h2 => ⟨h.1, Two.append h.2 h2⟩
set_option maxRecDepth 100000 in
set_option maxHeartbeats 400000 in
theorem grow_q (n : Nat) (w : World) (hn : n ≤ 2199023255552) : Calls Try.prog 50 #[.slice none 0 0, .int .i64 n] w fun e w' => ∃ v0_ : Value, e = .returned v0_ ∧ kq.R 40 w' w.heap.size (fun _ => True) v0_ [] ∧ Below w.heap.size w w' := by
  have HB := Aside0.mk (Below.refl w.heap.size w)
  by_cases h0 : n = 0
  · subst h0
    go_enter Try.func50, Try.ntmps50
    go_wp2_with fail
    go_ret
    exact ⟨_, rfl, Kd.R_nil _ _ _ _ _, HB.out⟩
  · have h1 : 0 < n := by omega
    have h2 : (0 : Int) < (n : Int) := by omega
    clear h0
    go_enter Try.func50, Try.ntmps50
    go_wp2_with (first
      | ((with_reducible refine gate_builtin (b := .append) (xs := #[.tmp 20, .tmp 21]) rfl ?_); at_builtin; refine Kd.R_append_zeros kq (w0 := w) w.heap.size rfl (.tmp 20) (.tmp 21) 36 3 40 (.agg #[.int .i64 0, .slice none 0 0, .slice none 0 0, .int .u64 0]) 64 rfl Try.underlying36 Try.underlying3 infoMany rfl (show 0 < 4 from by decide) (by decide) (.slice none 0 0) [] zQ (kx := .i64) (n : Int) (fun _ => True) rfl rfl (kq_M.2 rfl) (fun _ _ => trivial) (Kd.R_nil _ _ _ _ _) (by omega) HB.out (Nat.le_refl _) (by simp; omega) ?_; intro v1 w1 ho1 hb1 hg1 ha1; rw [List.nil_append, Int.toNat_natCast] at ho1; obtain ⟨A1, c1, rfl, hc1, -⟩ := Kd.R_reads ho1; have hc0 : 0 ≤ c1 := Nat.zero_le _; have HO1 := Aside0.mk ho1; have HB1 := Aside0.mk hb1; clear ho1 hb1 hg1 ha1 hc1)
      | fail)
    go_ret
    have h3 := Kd.R_take (m := 0) HO1.out (Nat.zero_le _)
    exact ⟨_, rfl, h3, HB1.out⟩
inductive RelC1 (w : World) (n t : Nat) (v1 v2 : Value) (w' : World) : Prop
  | zero (e1 : v1 = .int .i64 0) (e2 : v2 = .int .i64 0) (hw : w' = w)
  | one (e1 : v1 = .int .i64 n) (e2 : v2 = .int .i64 1) (hw : w' = w)
  | two (e1 : v1 = .int .i64 t) (e2 : v2 = .int .i64 2) (hw : w' = w)
inductive RelC2 (w w0 : World) (xs ys : List Q) (v1 v2 : Value) (w' : World) : Prop
  | zero (e2 : v2 = .int .i64 0) (hr : kq.R 40 w' w.heap.size (fun _ => True) v1 []) (hb : Below w.heap.size w w')
  | one (e2 : v2 = .int .i64 1) (hr : kq.R 40 w' w.heap.size (fun _ => True) v1 xs) (hb : Below w.heap.size w w')
  | two (e2 : v2 = .int .i64 2) (hr : kq.R 40 w' w.heap.size (fun _ => True) v1 (xs ++ ys)) (hb : Below w.heap.size w w')
set_option maxRecDepth 100000 in
set_option maxHeartbeats 1600000 in
theorem concat_q (gp n c m d : Nat) (A B : Option Addr) (xs ys : List Q) (w : World) (hp : w.heap[gp]? = some (.cells #[.slice A n c, .slice B m d] 36 (0, 0))) (hx : kq.C w A n xs) (hy : kq.C w B m ys) (hnm : n + m ≤ 1099511627776) :
    Calls Try.prog 37 #[.slice (some ⟨gp, 0, none⟩) 2 2] w fun e w' => ∃ v, e = .returned v ∧ kq.R 40 w' w.heap.size (fun _ => True) v (xs ++ ys) ∧ Below w.heap.size w w' := by
  have HP := Aside0.mk hp
  have HX := Aside0.mk hx
  have HY := Aside0.mk hy
  have HXl := Aside0.mk (show xs.length = n from hx.1)
  have HYl := Aside0.mk (show ys.length = m from hy.1)
  obtain ⟨t, ht⟩ : ∃ t, t = n + m := ⟨_, rfl⟩
  have HT := Aside0.mk (show (n : Int) + (m : Int) = (t : Int) ∧ t ≤ 2199023255552 by omega)
  clear hp hx hy ht
  go_enter Try.func37, Try.ntmps37
  (have hgp_0 : w.cell? ⟨gp, 0, none⟩ = some (.slice A n c) := (blk_cell HP.out 0).trans rfl; have hfgp_0 := blk_frozen HP.out 0; have hgp_1 : w.cell? ⟨gp, 1, none⟩ = some (.slice B m d) := (blk_cell HP.out 1).trans rfl; have hfgp_1 := blk_frozen HP.out 1)
  go_wp2_with fail
  go_loopw [3, 11] (fun v3 v11 w' => RelC1 w n t v3 v11 w') (fun _ v11 _ => 2 - (intOf v11).toNat)
  case atStart => exact .zero rfl rfl rfl
  case round =>
    rcases hrel with ⟨rfl, rfl, hw⟩ | ⟨rfl, rfl, hw⟩ | ⟨rfl, rfl, hw⟩
    · subst hw
      have hn0 : (0 : Int) ≤ (n : Int) := by omega
      go_wp2_with fail
      go_roundw
      case rel => exact .one (by go_num) rfl rfl
      case measure => simp [intOf]
    · subst hw
      have hn0 : (n : Int) + (m : Int) = (t : Int) := HT.out.1
      have hn1 : (0 : Int) ≤ (t : Int) := by omega
      go_wp2_with fail
      go_roundw
      case rel => exact .two (by first | rfl | (rw [hn0])) rfl rfl
      case measure => simp [intOf]
    · subst hw
      have HG := Aside0.mk (fun wx => grow_q t wx HT.out.2)
      go_wp2_with fail
      refine (HG.out _).mono ?_
      rintro e w2 ⟨v2, rfl, hr2, hb2⟩
      have HR2 := Aside0.mk hr2
      have HB2 := Aside0.mk hb2
      clear hr2 hb2 HG
      go_wp2_with fail
      have BKp := Aside0.mk (blk_below HP.out HB2.out)
      go_loopw [6, 27] (fun v6 v27 w' => RelC2 wr w2 xs ys v6 v27 w') (fun _ v27 _ => 2 - (intOf v27).toNat)
      case atStart => exact .zero rfl HR2.out HB2.out
      case round =>
        clear HR2 HB2 BKp hgp_0 hfgp_0 hgp_1 hfgp_1
        rcases hrel with ⟨rfl, hr, hb⟩ | ⟨rfl, hr, hb⟩ | ⟨rfl, hr, hb⟩
        · have HRk := Aside0.mk hr
          have HBk := Aside0.mk hb
          have HXk := Aside0.mk (Kd.C_below HX.out hb)
          have BKp := Aside0.mk (blk_below HP.out hb)
          clear hr hb
          (have hgp_0 : wr.cell? ⟨gp, 0, none⟩ = some (.slice A n c) := (blk_cell BKp.out 0).trans rfl; have hfgp_0 := blk_frozen BKp.out 0; have hgp_1 : wr.cell? ⟨gp, 1, none⟩ = some (.slice B m d) := (blk_cell BKp.out 1).trans rfl; have hfgp_1 := blk_frozen BKp.out 1)
          go_wp2_with (first | ((with_reducible refine gate_builtin (b := .append) (xs := #[.tmp 31, .tmp 32]) rfl ?_); at_builtin; refine Kd.R_append_rows kq (Rr := kq.K wr) _ rfl (.tmp 31) (.tmp 32) 36 40 (.agg #[.int .i64 0, .slice none 0 0, .slice none 0 0, .int .u64 0]) 64 rfl Try.underlying36 infoMany rfl (show 0 < 4 from by decide) (by decide) u6 [] xs A n c (fun _ => True) (fun _ => False) rfl rfl HRk.out HXk.out (fun x cs h => kq_M.2 (kq_K.1 h)) (fun _ h => h.elim) (fun _ _ => trivial) HBk.out HBk.out.size (by have := HXl.out; have := HYl.out; simp; omega) ?_; intro v4 w4 ho4 hb4 hg4 ha4; have HO4 := Aside0.mk ho4; have HB4 := Aside0.mk hb4; clear ho4 hb4 hg4 ha4) | fail)
          go_roundw
          case rel => exact .one rfl HO4.out HB4.out
          case measure => simp [intOf]
        · have HRk := Aside0.mk hr
          have HBk := Aside0.mk hb
          have HYk := Aside0.mk (Kd.C_below HY.out hb)
          have BKp := Aside0.mk (blk_below HP.out hb)
          clear hr hb
          (have hgp_0 : wr.cell? ⟨gp, 0, none⟩ = some (.slice A n c) := (blk_cell BKp.out 0).trans rfl; have hfgp_0 := blk_frozen BKp.out 0; have hgp_1 : wr.cell? ⟨gp, 1, none⟩ = some (.slice B m d) := (blk_cell BKp.out 1).trans rfl; have hfgp_1 := blk_frozen BKp.out 1)
          go_wp2_with (first | ((with_reducible refine gate_builtin (b := .append) (xs := #[.tmp 31, .tmp 32]) rfl ?_); at_builtin; refine Kd.R_append_rows kq (Rr := kq.K wr) _ rfl (.tmp 31) (.tmp 32) 36 40 (.agg #[.int .i64 0, .slice none 0 0, .slice none 0 0, .int .u64 0]) 64 rfl Try.underlying36 infoMany rfl (show 0 < 4 from by decide) (by decide) u6 xs ys B m d (fun _ => True) (fun _ => False) rfl rfl HRk.out HYk.out (fun x cs h => kq_M.2 (kq_K.1 h)) (fun _ h => h.elim) (fun _ _ => trivial) HBk.out HBk.out.size (by have := HXl.out; have := HYl.out; simp; omega) ?_; intro v4 w4 ho4 hb4 hg4 ha4; have HO4 := Aside0.mk ho4; have HB4 := Aside0.mk hb4; clear ho4 hb4 hg4 ha4) | fail)
          go_roundw
          case rel => exact .two rfl HO4.out HB4.out
          case measure => simp [intOf]
        · have HRk := Aside0.mk hr
          have HBk := Aside0.mk hb
          clear hr hb
          go_wp2_with fail
          go_ret
          exact ⟨_, rfl, HRk.out, HBk.out⟩
def fact_Join.f (l0 : List (S40)) (l1 : List (S40)) : Option (List (S40)) := if l0.length + l1.length ≤ sortK ∧ l0.all small40 = true ∧ l1.all small40 = true then some (bag40 (l0 ++ l1) (fun _ => true)) else none
set_option maxRecDepth 100000 in
set_option maxHeartbeats 400000 in
theorem fact_Join.calls (A0 : Option Addr) (c0 : Nat) (l0 : List (S40)) (A1 : Option Addr) (c1 : Nat) (l1 : List (S40)) (r : List (S40)) (w : World) (hr0 : Kd.C k40 w A0 l0.length l0) (hc0 : l0.length ≤ c0) (hr1 : Kd.C k40 w A1 l1.length l1) (hc1 : l1.length ≤ c1) (h : fact_Join.f l0 l1 = some r) :
    Calls Try.prog 22 #[.slice A0 l0.length c0, .slice A1 l1.length c1] w fun e w' => ∃ v0_ : Value, e = .returned v0_ ∧ Kd.R k40 40 w' w.heap.size (fun _ => True) v0_ r ∧ Below w.heap.size w w' := by
  unfold fact_Join.f at h
  split at h
  · rename_i hh
    injection h with h
    subst h
    obtain ⟨q0, f0, t0⟩ := flat40 hr0 (small40_of hh.2.1)
    obtain ⟨q1, f1, t1⟩ := flat40 hr1 (small40_of hh.2.2)
    have HH := Aside0.mk hh.1
    have HF0 := Aside0.mk f0
    have HF1 := Aside0.mk f1
    obtain ⟨qq, hqq⟩ : ∃ qq, qq = q0 ++ q1 := ⟨_, rfl⟩
    have HT := Aside0.mk (show Two (fun q x => Fl w q x.1 ∧ q.2.2.2 = x.2) qq ((l0 ++ l1).map m40) by rw [hqq, List.map_append]; exact Two.append t0 t1)
    have HLl := Aside0.mk (show qq.length = l0.length + l1.length by rw [hqq, List.length_append, f0.1, f1.1])
    have HQ := Aside0.mk hqq.symm
    clear hqq
    have HBk := Aside0.mk (fun (w2 : World) (c2 : Nat) (A2 : Option Addr) (hC : kq.C w2 A2 qq.length qq) (hx : Below w.heap.size w w2) => show Calls Try.prog 33 #[.slice A2 qq.length c2, .func (.func 34) #[] #[]] w2 (fun e w' => ∃ v, e = .returned v ∧ Kd.R k40 40 w' w2.heap.size (fun _ => True) v (bag40 (l0 ++ l1) (fun _ => true)) ∧ Below w2.heap.size w2 w') from
      bag_known sortK sortK_le sort_ok qq.length c2 A2 qq ((l0 ++ l1).map m40) 34 #[] (fun _ => true) w2 hC (by rw [HLl.out]; exact HH.out) (Two.mono (fun q x h => ⟨h.1.below hx, h.2⟩) HT.out) ⟨_, Try.func34, rfl, rfl⟩ (fun w' _ q x hq => all_calls _ _ _ rfl rfl rfl w'))
    clear hh hr0 hc0 hr1 hc1 f0 f1 t0 t1
    generalize hl0 : l0.length = n at *
    generalize hl1 : l1.length = m at *
    clear hl0 hl1
    go_enter Try.func22, Try.ntmps22
    go_wp2_with (first
      | ((with_reducible refine gate_dst (N := 7) rfl ?_); refine row_event2 ?hg (N := 7) ?hd (cs := #[.slice A0 n c0, .slice A1 m c1]) (t := 36) (n := 2) (c := 2) ?hr ?_; (case hd => rfl); (case hg => rfl); (case hr => first | (go_simp; done) | (go_simp; rfl)); intro g1 hg w1 hbox hb; have BK1 := Aside0.mk hbox; have HX1 := Aside0.mk hb; clear hg hbox hb)
      | (go_at_call 37; refine (concat_q g1 n c0 m c1 A0 A1 q0 q1 w1 BK1.out (Kd.C_below HF0.out HX1.out) (Kd.C_below HF1.out HX1.out) (Nat.le_trans HH.out sortK_le)).mono ?_; rintro e w2 ⟨v2, rfl, hr2, hb2⟩; rw [HQ.out] at hr2; obtain ⟨A2, c2, rfl, hc2, hC2⟩ := Kd.R_reads hr2; have HC2 := Aside0.mk hC2; have HX2 := Aside0.mk (below_then HX1.out HX1.out.size hb2); clear hr2 hb2 hC2 hc2)
      | (go_at_call 33; refine (HBk.out w2 c2 A2 HC2.out HX2.out).mono ?_; rintro e w3 ⟨v3, rfl, hr3, hb3⟩; have HR3 := Aside0.mk hr3; have HB3 := Aside0.mk (below_then HX2.out HX2.out.size hb3); clear hr3 hb3)
      | fail)
    go_ret
    refine ⟨v3, rfl, ?_, HB3.out⟩
    exact Kd.R_lower HR3.out HX2.out.size
  · cases h
end Go.Proofs.Ytfeeahjaeapkoaa.P
end

section
namespace Go.Proofs.Ytfeeahjaeapkoaa.Ext
set_option linter.unusedVariables false
set_option linter.unusedSimpArgs false
open Go.RowKit Go.Proofs.YtfeeahjaeapkoaaW.PrintWords Go.Proofs.YtfeeahjaeapkoaaW.PrintLast Go.Proofs.YtfeeahjaeapkoaaW.PrintMore Go.Proofs.Ytfeeahjaeapkoaa.Lib Go.Proofs.Ytfeeahjaeapkoaa.P
structure Only (ok : Nat → Prop) (w w' : World) : Prop where
  os : w'.os = w.os
  tape : w'.tape = w.tape
  output : w'.output = w.output
  size : w.heap.size ≤ w'.heap.size
  block : ∀ k, k < w.heap.size → ¬ ok k → w'.heap[k]? = w.heap[k]?
theorem Only.refl (ok : Nat → Prop) (w : World) : Only ok w w := ⟨rfl, rfl, rfl, Nat.le_refl _, fun _ _ _ => rfl⟩
theorem Only.below {ok : Nat → Prop} {w w' : World} (h : Only ok w w') {B : Nat} (hB : B ≤ w.heap.size) (ho : ∀ k, ok k → B ≤ k) : Below B w w' :=
  ⟨h.os, h.tape, h.output, h.size, fun k hk => h.block k (by omega) (fun hk2 => by have := ho k hk2; omega)⟩
theorem Only.set {ok : Nat → Prop} {w w' : World} (h : Only ok w w') (g o : Nat) (hg : ok g) (u : Value) : Only ok w (w'.setCell ⟨g, o, none⟩ u) :=
  ⟨h.os, h.tape, h.output, by simp only [World.setCell, Array.size_modify]; exact h.size, fun k hk hn => (Below.heap_setCell w' ⟨g, o, none⟩ u k (fun e => hn (e ▸ hg))).trans (h.block k hk hn)⟩
theorem R_only {α : Type} {d : Kd α} {e base : Nat} {w w1 : World} {ok ok' : Nat → Prop} {v : Value} {xs : List α} (h : d.R e w base ok v xs) (ho : Only ok' w w1) (hd : ∀ k, ok k → base ≤ k → k < w.heap.size → ¬ ok' k) : d.R e w1 base ok v xs :=
  Kd.R_mono (Kd.R_step (Kd.R_bound h) (fun k hk hlt => ho.block k hlt (hd k hk.1 hk.2.1 hlt))) (fun _ hk => hk.1)
structure Shp (ok : Nat → Prop) (w w' : World) : Prop where
  bel : Only ok w w'
  cells : ∀ (i : Nat) (cs : Array Value) (t : TypeId), w.heap[i]? = some (.cells cs t (0, 0)) → ∃ cs' : Array Value, w'.heap[i]? = some (.cells cs' t (0, 0)) ∧ cs'.size = cs.size
theorem Shp.refl (ok : Nat → Prop) (w : World) : Shp ok w w := ⟨Only.refl _ _, fun i cs t h => ⟨cs, h, rfl⟩⟩
theorem Shp.set {ok : Nat → Prop} {w w' : World} (h : Shp ok w w') (g o : Nat) (hg : ok g) (u : Value) : Shp ok w (w'.setCell ⟨g, o, none⟩ u) :=
  ⟨h.bel.set g o hg u, fun i cs t hi => by
    obtain ⟨cs', h1, h2⟩ := h.cells i cs t hi
    by_cases e : i = g
    · subst e
      refine ⟨cs'.setIfInBounds o u, ?_, by rw [Array.size_setIfInBounds, h2]⟩
      simp only [World.setCell, Array.getElem?_modify, if_pos, h1, Option.map_some]
      rfl
    · exact ⟨cs', (Below.heap_setCell w' ⟨g, o, none⟩ u i e).trans h1, h2⟩⟩
structure Sp (w : World) (ok : Nat → Prop) (g n : Nat) (w' : World) : Prop where
  shp : Shp ok w w'
  d : ∀ j, j < n → w'.cell? ⟨g, j * 4 + 1, none⟩ = w.cell? ⟨g, j * 4 + 1, none⟩
  m : ∀ j, j < n → w'.cell? ⟨g, j * 4 + 2, none⟩ = w.cell? ⟨g, j * 4 + 2, none⟩
theorem Sp.set {w w' : World} {ok : Nat → Prop} {g n : Nat} (h : Sp w ok g n w') (p o : Nat) (hp : ok p) (ho : p = g → o % 4 ≠ 1 ∧ o % 4 ≠ 2) (u : Value) : Sp w ok g n (w'.setCell ⟨p, o, none⟩ u) :=
  ⟨h.shp.set p o hp u, fun j hj => (World.cell?_setCell_other _ _ _ _ (fun e => by injection e with e1 e2; have := ho e1; omega)).trans (h.d j hj),
    fun j hj => (World.cell?_setCell_other _ _ _ _ (fun e => by injection e with e1 e2; have := ho e1; omega)).trans (h.m j hj)⟩
def Gd (w : World) (ok : Nat → Prop) (t : Nat) (A : Option Addr) (m : Nat) : Prop := 0 < m → ∃ (h : Nat) (cs : Array Value), A = some ⟨h, 0, none⟩ ∧ ok h ∧ w.heap[h]? = some (.cells cs t (0, 0)) ∧ m ≤ cs.size
theorem Gd.of_R {α : Type} {d : Kd α} {e base : Nat} {w : World} {ok : Nat → Prop} {v : Value} {xs : List α} (hsz : d.sz = 1) (h : d.R e w base ok v xs) : ∃ A c, v = .slice A xs.length c ∧ Gd w ok e A xs.length := by
  obtain ⟨inner, hl, ho⟩ := Kd.R_own h
  have hk := h.1
  rw [hsz] at ho
  rcases ho with ⟨rfl, h0⟩ | ⟨g, cap, cur, rfl, hb, hh, h1, h2, h3, h4⟩
  · rw [h0]; exact ⟨none, 0, rfl, fun h => absurd h (Nat.lt_irrefl _)⟩
  · exact ⟨_, cap, rfl, fun _ => ⟨g, cur, rfl, hk g rfl, hh, by omega⟩⟩
theorem Gd.mono {w : World} {ok ok' : Nat → Prop} {t m : Nat} {A : Option Addr} (h : Gd w ok t A m) (ho : ∀ k, ok k → ok' k) : Gd w ok' t A m := fun hm => by
  obtain ⟨p, cs, e, h1, h2⟩ := h hm
  exact ⟨p, cs, e, ho _ h1, h2⟩
theorem Gd.at {w w' : World} {g n t m : Nat} {ok : Nat → Prop} {A : Option Addr} (h : Gd w ok t A m) (hs : Sp w ok g n w') {cs : Array Value} {T : Nat} (hg : w.heap[g]? = some (.cells cs T (0, 0))) (hT : t ≠ T) (k : Nat) (hk : k < m) :
    ∃ p u, A = some ⟨p, 0, none⟩ ∧ ok p ∧ w'.cell? ⟨p, k, none⟩ = some u ∧ w'.frozen? ⟨p, k, none⟩ = false ∧ p ≠ g := by
  obtain ⟨p, c0, rfl, hb, hh, hl⟩ := h (by omega)
  obtain ⟨c1, h1, h2⟩ := hs.shp.cells _ _ _ hh
  refine ⟨p, c1[k]'(by omega), rfl, hb, (blk_cell h1 k).trans (Array.getElem?_eq_getElem (by omega)), blk_frozen h1 k, fun e => ?_⟩
  subst e
  rw [hh] at hg
  injection hg with hg
  injection hg with _ hg
  exact hT hg
inductive RelSpoil (w : World) (ok : Nat → Prop) (g n m : Nat) (v : Value) (w' : World) : Prop
  | mk (i : Nat) (e : v = .int .i64 i) (hi : i ≤ m) (h : Sp w ok g n w')
set_option maxRecDepth 100000 in
set_option maxHeartbeats 400000 in
theorem spoil_none (w : World) (c : Nat) : Calls Try.prog 23 #[.slice none 0 c] w fun e w' => e = .returned (.tuple #[]) ∧ w' = w := by
  go_enter Try.func23, Try.ntmps23
  go_wp2_with fail
  go_loopw [2, 3, 4] (fun v2 v3 v4 w' => v2 = .int .i64 0 ∧ Aside0 (w' = w)) (fun _ _ _ _ => 0)
  case atStart => exact ⟨rfl, ⟨rfl⟩⟩
  case round =>
    obtain ⟨rfl, HW⟩ := hrel
    go_wp2_with fail
    go_end0
    exact ⟨rfl, HW.out⟩
set_option maxRecDepth 100000 in
set_option maxHeartbeats 1600000 in
theorem spoil_row (w : World) (ok : Nat → Prop) (g n c : Nat) (cs : Array Value) (hg : w.heap[g]? = some (.cells cs 40 (0, 0))) (hsz : n * 4 ≤ cs.size) (hn : n ≤ 9223372036854775807) (hbg : ok g)
    (hel : ∀ j, j < n → ∃ A1 n1 c1 A2 n2 c2, w.cell? ⟨g, j * 4 + 1, none⟩ = some (.slice A1 n1 c1) ∧ w.cell? ⟨g, j * 4 + 2, none⟩ = some (.slice A2 n2 c2) ∧ Gd w ok 9 A1 n1 ∧ Gd w ok 2 A2 n2 ∧ n1 ≤ 9223372036854775807 ∧ n2 ≤ 9223372036854775807) :
    Calls Try.prog 23 #[.slice (some ⟨g, 0, none⟩) n c] w fun e w' => e = .returned (.tuple #[]) ∧ Only ok w w' := by
  have HG := Aside0.mk hg
  have HSz := Aside0.mk hsz
  have HEl := Aside0.mk hel
  have HBg := Aside0.mk hbg
  clear hg hsz hel hbg
  go_enter Try.func23, Try.ntmps23
  go_wp2_with fail
  go_loopw [2, 3, 4] (fun v2 v3 v4 w' => RelSpoil w ok g n n v2 w') (fun v2 _ _ _ => n - (intOf v2).toNat)
  case atStart => exact ⟨0, rfl, Nat.zero_le _, ⟨Shp.refl _ _, fun _ _ => rfl, fun _ _ => rfl⟩⟩
  case round =>
    obtain ⟨i, rfl, hin, hsp⟩ := hrel
    have HSp := Aside0.mk hsp
    clear hsp
    by_cases hlt : i < n
    · have hlt2 : (i : Int) < (n : Int) := by omega
      obtain ⟨A1, n1, c1, A2, n2, c2, e1, e2, G1, G2, b1, b2⟩ := HEl.out i hlt
      have HE1 := Aside0.mk e1
      have HE2 := Aside0.mk e2
      have HG1 := Aside0.mk G1
      have HG2 := Aside0.mk G2
      clear e1 e2 G1 G2
      go_wp2_with fail
      go_loopw [3] (fun v3 w' => RelSpoil w ok g n n1 v3 w') (fun v3 _ => n1 - (intOf v3).toNat)
      case atStart => exact ⟨0, rfl, Nat.zero_le _, HSp.out⟩
      case round =>
        clear HSp
        obtain ⟨k, rfl, hkn, hsp⟩ := hrel
        have HSp := Aside0.mk hsp
        clear hsp
        have d1 := (HSp.out.d i hlt).trans HE1.out
        by_cases hk : k < n1
        · have hk2 : (k : Int) < (n1 : Int) := by omega
          obtain ⟨p, u, rfl, hbp, hcp, hfp, hpg⟩ := HG1.out.at HSp.out HG.out (by decide) k hk
          have HBp := Aside0.mk hbp
          have HPg := Aside0.mk hpg
          clear hbp hpg
          go_wp2_with fail
          go_roundw
          case rel => exact ⟨k + 1, by go_num, by omega, HSp.out.set p k HBp.out (fun e => absurd e HPg.out) _⟩
          case measure => simp [intOf]; omega
        · have hk2 : ¬ (k : Int) < (n1 : Int) := by omega
          clear hk
          go_wp2_with fail
          go_loopw [4] (fun v4 w' => RelSpoil w ok g n n2 v4 w') (fun v4 _ => n2 - (intOf v4).toNat)
          case atStart => exact ⟨0, rfl, Nat.zero_le _, HSp.out⟩
          case round =>
            clear HSp d1
            obtain ⟨q, rfl, hqn, hsp⟩ := hrel
            have HSp := Aside0.mk hsp
            clear hsp
            have d2 := (HSp.out.m i hlt).trans HE2.out
            by_cases hq : q < n2
            · have hq2 : (q : Int) < (n2 : Int) := by omega
              obtain ⟨p, u, rfl, hbp, hcp, hfp, hpg⟩ := HG2.out.at HSp.out HG.out (by decide) q hq
              have HBp := Aside0.mk hbp
              have HPg := Aside0.mk hpg
              clear hbp hpg
              go_wp2_with fail
              go_roundw
              case rel => exact ⟨q + 1, by go_num, by omega, HSp.out.set p q HBp.out (fun e => absurd e HPg.out) _⟩
              case measure => simp [intOf]; omega
            · have hq2 : ¬ (q : Int) < (n2 : Int) := by omega
              clear hq
              obtain ⟨c1_, h1, h2⟩ := HSp.out.shp.cells _ _ _ HG.out
              have hz := HSz.out
              have d3 : _ = some (c1_[i * 4 + 3]'(by omega)) := (blk_cell h1 (i * 4 + 3)).trans (Array.getElem?_eq_getElem (by omega))
              have f3 := blk_frozen h1 (i * 4 + 3)
              have d0 : _ = some (c1_[i * 4]'(by omega)) := (blk_cell h1 (i * 4)).trans (Array.getElem?_eq_getElem (by omega))
              have f0 := blk_frozen h1 (i * 4)
              generalize c1_[i * 4 + 3]'(by omega) = x3 at d3
              generalize c1_[i * 4]'(by omega) = x0 at d0
              clear h1 h2 hz
              go_wp2_with fail
              go_roundw
              case rel => exact ⟨i + 1, by go_num, by omega, (HSp.out.set g (i * 4 + 3) HBg.out (fun _ => by omega) _).set g (i * 4) HBg.out (fun _ => by omega) _⟩
              case measure => simp [intOf]; omega
    · have hlt2 : ¬ (i : Int) < (n : Int) := by omega
      clear hlt
      go_wp2_with fail
      go_end0
      exact ⟨rfl, HSp.out.shp.bel⟩
theorem spoil_calls (v : Value) (l : List S40) (w : World) (base : Nat) (ok : Nat → Prop) (hr : Kd.R k40 40 w base ok v l) : Calls Try.prog 23 #[v] w fun e w' => e = .returned (.tuple #[]) ∧ Only ok w w' := by
  obtain ⟨inner, hl, ho⟩ := Kd.R_own hr
  have h4 : k40.sz = 4 := rfl
  rw [h4] at ho hl
  rcases ho with ⟨rfl, h0⟩ | ⟨g, cap, cur, rfl, hb, hh, h1, h2, h3, h5⟩
  · exact (spoil_none w 0).mono fun e w' h => ⟨h.1, by rw [h.2]; exact Only.refl _ _⟩
  · have hm : maxLen ≤ 9223372036854775807 := by decide
    refine spoil_row w ok g l.length cap cur hh (by omega) (by omega) (hr.1 g rfl) (fun j hj => ?_)
    obtain ⟨cs, hcl, hM, hcc⟩ := Kd.R_getA hr (s40 zM) (j : Int) (by omega) (by omega)
    rw [Int.toNat_natCast] at hM hcc
    obtain ⟨v1, v2, rfl, r1, r2⟩ := k40_openM hM
    obtain ⟨A1, c1, rfl, g1⟩ := Gd.of_R rfl r1
    obtain ⟨A2, c2, rfl, g2⟩ := Gd.of_R rfl r2
    refine ⟨A1, _, c1, A2, _, c2, ?_, ?_, g1.mono (fun _ hk => hk.1), g2.mono (fun _ hk => hk.1), ?_, ?_⟩
    · have := hcc 1 _ rfl
      simpa [Addr.add, h4] using this
    · have := hcc 2 _ rfl
      simpa [Addr.add, h4] using this
    · obtain ⟨inner, hl, ho⟩ := Kd.R_own r1
      rcases ho with ⟨_, h0⟩ | ⟨_, cap, _, _, _, _, h1, h2, _⟩ <;> omega
    · obtain ⟨inner, hl, ho⟩ := Kd.R_own r2
      rcases ho with ⟨_, h0⟩ | ⟨_, cap, _, _, _, _, h1, h2, _⟩ <;> omega
end Go.Proofs.Ytfeeahjaeapkoaa.Ext
end

section
namespace Go.Proofs.Ytfeeahjaeapkoaa.Ext
set_option linter.unusedVariables false
set_option linter.unusedSimpArgs false
open Go.RowKit Go.Proofs.YtfeeahjaeapkoaaW.PrintWords Go.Proofs.YtfeeahjaeapkoaaW.PrintLast Go.Proofs.YtfeeahjaeapkoaaW.PrintMore Go.Proofs.Ytfeeahjaeapkoaa.Lib Go.Proofs.Ytfeeahjaeapkoaa.P
theorem R_in {α : Type} {d : Kd α} {e base : Nat} {w : World} {ok : Nat → Prop} {v : Value} {xs : List α} (h : d.R e w base ok v xs) : d.R e w base (fun k => base ≤ k ∧ k < w.heap.size) v xs := Kd.R_mono (Kd.R_bound h) (fun _ hk => ⟨hk.2.1, hk.2.2.1⟩)
theorem Below.only {B : Nat} {ok : Nat → Prop} {w w' : World} (h : Below B w w') (hB : B = w.heap.size) : Only ok w w' := ⟨h.os, h.tape, h.output, h.size, fun k hk _ => h.block k (by omega)⟩
theorem C_nil40 (w : World) : Kd.C k40 w none ([] : List S40).length [] := ⟨rfl, by decide, fun h => absurd h (Nat.lt_irrefl _)⟩
set_option maxRecDepth 100000 in
set_option maxHeartbeats 400000 in
theorem own_walk (A0 : Option Addr) (c0 n : Nat) (l : List S27) (r rc rd : List S40) (fr tt : Int) (k : Nat) (w : World) (hn : l.length = n) (hr : Kd.C k27 w A0 l.length l) (hc : l.length ≤ c0) (hle : n ≤ 100)
    (eB : fact_Bag.f l = some r) (eC : fact_Within.f r fr tt = some rc) (eD : fact_Join.f r [] = some rd) (eI : gristmillref04_Is.f k r r = some true) :
    Calls Try.prog 6 #[.slice A0 n c0, .agg #[.int .i64 fr, .int .i64 tt]] w fun e w' => e = .returned (.bool true) ∧ Below w.heap.size w w' := by
  subst hn
  have HBg := Aside0.mk (fun wx (hx : Below w.heap.size w wx) => fact_Bag.calls A0 c0 l r wx (Kd.C_below hr hx) hc eB)
  have HC := Aside0.mk eC
  have HD := Aside0.mk eD
  have HI := Aside0.mk eI
  clear eB eC eD eI hr hc
  generalize l.length = n at *
  have hle2 : ¬ (n : Int) > 100 := by omega
  clear hle
  go_enter Try.func6, Try.ntmps6
  go_wp2_with (first | ((with_reducible refine gate_dst (N := 3) rfl ?_); refine box_event ?hg (N := 3) ?hd (cs := #[.int .i64 fr, .int .i64 tt]) (t := 44) ?hr ?_; (case hd => rfl); (case hg => rfl); (case hr => first | (go_simp; done) | (go_simp; rfl)); intro g1 hg w1 hbox hb; have GE1 := Aside0.mk (Nat.le_of_eq hg.symm); have BK1 := Aside0.mk hbox; have HX1 := Aside0.mk hb; clear hg hbox hb) | fail)
  refine (gristmilllaw04_awake.calls true _ rfl).mono ?_
  rintro e w2 ⟨rfl, hb⟩
  have HX2 := Aside0.mk (below_then HX1.out HX1.out.size hb)
  have BK2 := Aside0.mk (blk_below BK1.out hb)
  clear hb
  go_wp2_with fail
  refine (HBg.out w2 HX2.out).mono ?_
  rintro e w3 ⟨v3, rfl, hr3, hb3⟩
  have HR3 := Aside0.mk (R_in hr3)
  have HB3 := Aside0.mk hb3
  clear hr3 hb3
  go_wp2_with fail
  refine (HBg.out w3 (below_then HX2.out HX2.out.size HB3.out)).mono ?_
  rintro e w4 ⟨v4, rfl, hr4, hb4⟩
  have HR4 := Aside0.mk (R_in hr4)
  have HB4 := Aside0.mk hb4
  clear hr4 hb4
  obtain ⟨A3, c3, rfl, hc3, hC3⟩ := Kd.R_reads HR3.out
  have HC3 := Aside0.mk hc3
  have HCC3 := Aside0.mk (Kd.C_below hC3 HB4.out)
  have BK4 := Aside0.mk (blk_below (blk_below BK2.out HB3.out) HB4.out)
  clear hc3 hC3
  (have hg1_0 : w4.cell? ⟨g1, 0, none⟩ = some (.int .i64 fr) := (blk_cell BK4.out 0).trans rfl; have hfg1_0 := blk_frozen BK4.out 0; have hg1_1 : w4.cell? ⟨g1, 1, none⟩ = some (.int .i64 tt) := (blk_cell BK4.out 1).trans rfl; have hfg1_1 := blk_frozen BK4.out 1)
  go_wp2_with fail
  refine (fact_Within.calls A3 c3 r fr tt rc w4 HCC3.out HC3.out HC.out).mono ?_
  rintro e w5 ⟨v5, rfl, hr5, hb5⟩
  have HR5 := Aside0.mk (R_in hr5)
  have HB5 := Aside0.mk hb5
  clear hr5 hb5
  clear hg1_0 hfg1_0 hg1_1 hfg1_1
  go_wp2_with fail
  refine (fact_Join.calls A3 c3 r none 0 [] rd w5 (Kd.C_below HCC3.out HB5.out) HC3.out (C_nil40 _) (Nat.le_refl _) HD.out).mono ?_
  rintro e w6 ⟨v6, rfl, hr6, hb6⟩
  have HR6 := Aside0.mk (R_in hr6)
  have HB6 := Aside0.mk hb6
  clear hr6 hb6
  go_wp2_with fail
  refine (spoil_calls v5 rc w6 _ _ (Kd.R_below HR5.out HB6.out)).mono ?_
  rintro e w7 ⟨rfl, hb7⟩
  have HB7 := Aside0.mk hb7
  clear hb7
  go_wp2_with fail
  refine (spoil_calls v6 rd w7 _ _ (R_only HR6.out HB7.out (fun k h1 h2 h3 => by omega))).mono ?_
  rintro e w8 ⟨rfl, hb8⟩
  have HB8 := Aside0.mk hb8
  clear hb8
  have HS := Aside0.mk (show w2.heap.size ≤ w3.heap.size ∧ w3.heap.size ≤ w4.heap.size ∧ w4.heap.size ≤ w5.heap.size ∧ w5.heap.size ≤ w6.heap.size ∧ w6.heap.size ≤ w7.heap.size ∧ w7.heap.size ≤ w8.heap.size ∧ w.heap.size ≤ w2.heap.size from ⟨HB3.out.size, HB4.out.size, HB5.out.size, HB6.out.size, HB7.out.size, HB8.out.size, HX2.out.size⟩)
  have HR3b := Aside0.mk (R_only (R_only (Kd.R_below (Kd.R_below (Kd.R_below HR3.out HB4.out) HB5.out) HB6.out) HB7.out (fun k h1 h2 h3 => by have := HS.out; omega)) HB8.out (fun k h1 h2 h3 => by have := HS.out; omega))
  have HR4b := Aside0.mk (R_only (R_only (Kd.R_below (Kd.R_below HR4.out HB5.out) HB6.out) HB7.out (fun k h1 h2 h3 => by have := HS.out; omega)) HB8.out (fun k h1 h2 h3 => by have := HS.out; omega))
  obtain ⟨A4, c4, rfl, hc4, hC4⟩ := Kd.R_reads HR4b.out
  have HC4 := Aside0.mk hc4
  clear hc4 hC4
  go_wp2_with fail
  refine (gristmillref04_Is.calls k A3 c3 r A4 c4 r true w8 (Kd.R_reads' HR3b.out).2.2 HC3.out (Kd.R_reads' HR4b.out).2.2 HC4.out HI.out).mono ?_
  rintro e w9 ⟨rfl, hb9⟩
  have HB9 := Aside0.mk hb9
  clear hb9
  go_wp2_with fail
  refine (spoil_calls _ r w9 _ _ (Kd.R_below HR3b.out HB9.out)).mono ?_
  rintro e w10 ⟨rfl, hb10⟩
  have HB10 := Aside0.mk hb10
  clear hb10
  have HX10 := Aside0.mk (show Below w.heap.size w w10 from
    (below_then (below_then (below_then (below_then HX2.out HX2.out.size HB3.out) (Nat.le_trans HX2.out.size HB3.out.size) HB4.out) (by have := HS.out; omega) HB5.out) (by have := HS.out; omega) HB6.out).trans
      (((HB7.out.below (by have := HS.out; omega) (fun k hk => by have := HS.out; omega)).trans (HB8.out.below (by have := HS.out; omega) (fun k hk => by have := HS.out; omega))).trans
        ((HB9.out.mono (by have := HS.out; omega)).trans (HB10.out.below (by have := HS.out; have := HB9.out.size; omega) (fun k hk => by have := HS.out; omega)))))
  have HR4c := Aside0.mk (R_only (Kd.R_below HR4b.out HB9.out) HB10.out (fun k h1 h2 h3 => by have := HS.out; omega))
  go_wp2_with fail
  refine (HBg.out w10 HX10.out).mono ?_
  rintro e w11 ⟨v11, rfl, hr11, hb11⟩
  have HR11 := Aside0.mk hr11
  have HB11 := Aside0.mk hb11
  clear hr11 hb11
  obtain ⟨A11, c11, rfl, hc11, hC11⟩ := Kd.R_reads HR11.out
  have HC11 := Aside0.mk hc11
  clear hc11 hC11
  go_wp2_with fail
  refine (gristmillref04_Is.calls k A11 c11 r A4 c4 r true w11 (Kd.R_reads' HR11.out).2.2 HC11.out (Kd.R_reads' (Kd.R_below HR4c.out HB11.out)).2.2 HC4.out HI.out).mono ?_
  rintro e w12 ⟨rfl, hb12⟩
  have HB12 := Aside0.mk hb12
  clear hb12
  go_wp2_with fail
  go_ret
  exact ⟨rfl, (below_then (below_then HX10.out HX10.out.size HB11.out) (Nat.le_trans HX10.out.size HB11.out.size) HB12.out)⟩
set_option maxRecDepth 100000 in
set_option maxHeartbeats 400000 in
theorem own_long (A0 : Option Addr) (c0 n : Nat) (fr tt : Int) (w : World) (hle : 100 < n) :
    Calls Try.prog 6 #[.slice A0 n c0, .agg #[.int .i64 fr, .int .i64 tt]] w fun e w' => e = .returned (.bool true) ∧ Below w.heap.size w w' := by
  have hle2 : (n : Int) > 100 := by omega
  clear hle
  go_enter Try.func6, Try.ntmps6
  go_wp2_with (first | ((with_reducible refine gate_dst (N := 3) rfl ?_); refine box_event ?hg (N := 3) ?hd (cs := #[.int .i64 fr, .int .i64 tt]) (t := 44) ?hr ?_; (case hd => rfl); (case hg => rfl); (case hr => first | (go_simp; done) | (go_simp; rfl)); intro g1 hg w1 hbox hb; have GE1 := Aside0.mk (Nat.le_of_eq hg.symm); have BK1 := Aside0.mk hbox; have HX1 := Aside0.mk hb; clear hg hbox hb) | fail)
  refine (gristmilllaw04_awake.calls true _ rfl).mono ?_
  rintro e w2 ⟨rfl, hb⟩
  have HX2 := Aside0.mk (below_then HX1.out HX1.out.size hb)
  clear hb
  go_wp2_with fail
  go_ret
  exact ⟨rfl, HX2.out⟩
theorem own_calls (A0 : Option Addr) (c0 : Nat) (l : List S27) (fr tt : Int) (w : World) (hr : Kd.C k27 w A0 l.length l) (hc : l.length ≤ c0) (hq : ∀ q ∈ l, q.f1.length ≤ 8796093022208 ∧ q.f2.length ≤ 17592186044416) :
    Calls Try.prog 6 #[.slice A0 l.length c0, .agg #[.int .i64 fr, .int .i64 tt]] w fun e w' => e = .returned (.bool true) ∧ Below w.heap.size w w' := by
  by_cases h : l.length ≤ 100
  · have hsl : l.all small27 = true := List.all_eq_true.2 fun q hq' => by
      unfold small27
      rw [decide_eq_true (hq q hq').1, decide_eq_true (hq q hq').2]
      rfl
    have hm : ∀ m : List M, (m.map s40).length = m.length := fun m => List.length_map ..
    have e1 : fact_Bag.f l = some ((bagOf (l.map m27)).map s40) := if_pos ⟨by unfold sortK; omega, hsl⟩
    have sL : ∀ x ∈ bagOf (l.map m27), Small x := small_bag2 (fun x hx => by obtain ⟨y, hy, rfl⟩ := List.mem_map.1 hx; exact hq y hy)
    have lL : (bagOf (l.map m27)).length ≤ 100 := Nat.le_trans (bagOf_len _) (by rw [List.length_map]; exact h)
    have hg : ((bagOf (l.map m27)).map s40).length ≤ sortK ∧ ((bagOf (l.map m27)).map s40).all small40 = true := ⟨by rw [hm]; unfold sortK; omega, all_small40 sL⟩
    have e2 : fact_Within.f ((bagOf (l.map m27)).map s40) fr tt = some _ := if_pos hg
    have e3 : fact_Join.f ((bagOf (l.map m27)).map s40) [] = some _ := if_pos ⟨by rw [List.length_nil]; have := hg.1; omega, hg.2, rfl⟩
    have e4 := ref_is_rows _ _ sL sL (by omega) 80000000000000 (by omega)
    rw [decide_eq_true rfl] at e4
    exact own_walk A0 c0 l.length l _ _ _ fr tt _ w rfl hr hc h e1 e2 e3 e4
  · exact own_long A0 c0 l.length fr tt w (by omega)
end Go.Proofs.Ytfeeahjaeapkoaa.Ext
end

section
namespace Go.Proofs.Ytfeeahjaeapkoaa.Ext
set_option linter.unusedVariables false
set_option linter.unusedSimpArgs false
open Go.RowKit Go.Proofs.YtfeeahjaeapkoaaW.PrintWords
open Go.ChangeShapes Go.WideShapes Go.ChangeAt Go.Deep
def Opens (P : Program) {α : Type} (d : Kd α) (t : TypeId) (Q : α → Prop) : Prop :=
  ∀ (H : Type) (enc : TypeId × Value → H) (W : World) (base : Nat) (held : Bool) (fuel : Nat) (cs : List Value) (x : DataW H × List MemPlace),
    DataW.trod enc P W base (fun _ => true) held fuel t cs = some x → (∀ n ∈ x.1.weights P t, n ≤ reachBytes) → ∃ v, d.K W v cs ∧ Q v
def OpensF (P : Program) {α : Type} (d : Kd α) (o : Nat) (fs : List Field) (Q : α → Prop) : Prop :=
  ∀ (H : Type) (enc : TypeId × Value → H) (W : World) (base : Nat) (held : Bool) (n : Nat) (cs : List Value) (xs : List (DataW H × List MemPlace)),
    cs.length = o + d.sz → xs.length = fs.length →
    (∀ (i : Nat) (f : Field), fs[i]? = some f → DataW.trod enc P W base (fun _ => true) held n f.type ((cs.drop f.offset).take (P.cellsOf f.type)) = xs[i]?) →
    (∀ n ∈ DataW.weightsEach P (fs.map (·.type)) (xs.map (·.1)), n ≤ reachBytes) → ∃ v, d.K W v (cs.drop o) ∧ Q v
theorem opens_int {P : Program} {t : TypeId} {k : IntKind} (ht : P.underlying t = some (.int k)) : Opens P (Kd.int k) t (fun n => (Lit.int k n).wf = true) := by
  intro H enc W base held fuel cs x h _
  obtain ⟨n, rfl, _, hw⟩ := DataW.trod_int ht h
  exact ⟨n, rfl, hw⟩
theorem opens_string {P : Program} {t : TypeId} (ht : P.underlying t = some .string) : Opens P Kd.string t (fun s => s.size ≤ reachBytes) := by
  intro H enc W base held fuel cs x h hw
  obtain ⟨s, rfl, rfl, _⟩ := DataW.trod_string ht h
  refine ⟨s, rfl, ?_⟩
  have := hw s.data.toList.length (by simp [DataW.weights])
  simpa using this
theorem weights_all {H : Type} {P : Program} {e : TypeId} {d : DataW H} : ∀ {ds : List (DataW H)}, d ∈ ds → ∀ n ∈ d.weights P e, n ∈ DataW.weightsAll P e ds
  | [], h, _, _ => by cases h
  | d0 :: ds, h, n, hn => by
    simp only [DataW.weightsAll, List.mem_append]
    rcases List.mem_cons.1 h with rfl | h
    · exact .inl hn
    · exact .inr (weights_all h n hn)
theorem opens_slice {P : Program} {α : Type} {d : Kd α} {t e : TypeId} {ek : Nat} {Q : α → Prop} (ht : P.underlying t = some (.slice e)) (hd : Opens P d e Q) (hc : P.cellsOf e = d.sz) :
    Opens P (Kd.slice ek d) t (fun l => (∀ x ∈ l, Q x) ∧ l.length * P.bytesOf e ≤ reachBytes) := by
  intro H enc W base held fuel cs x h hw
  rcases open_slice ht h with ⟨rfl, _⟩ | ⟨a, len, cap, m, n, D, Pl, rfl, hb, hl, hm, hmm, rfl, hx⟩
  · exact ⟨[], ⟨none, 0, rfl, Nat.le_refl _, Kd.C_nil _ _⟩, by simp, by simp⟩
  have hml : len ≤ m := by rw [hmm]; simpa using hl
  have hat : ∀ i, i < len → ∃ v cs', d.K W v cs' ∧ Q v ∧ W.cells? base (a.add (i * P.cellsOf e)) (P.cellsOf e) = some cs' := by
    intro i hi
    obtain ⟨cs', h1, h2⟩ := hx i (Nat.lt_of_lt_of_le hi hml)
    obtain ⟨v, hv, hq⟩ := hd H enc W base held n cs' _ h2 (fun n hn => hw n (by
      simp only [DataW.weights, ht, List.mem_cons, List.mem_append]
      exact .inr (.inl (weights_all (List.mem_map.2 ⟨i, by simpa using hi, rfl⟩) n hn))))
    exact ⟨v, cs', hv, hq, h1⟩
  have hl2 : ∃ l : List α, l.length = len ∧ ∀ i v, l[i]? = some v → ∃ cs', d.K W v cs' ∧ Q v ∧ W.cells? base (a.add (i * P.cellsOf e)) (P.cellsOf e) = some cs' := by
    clear hw hx hmm hml hm hl h
    induction len with
    | zero => exact ⟨[], rfl, fun i v h => by simp at h⟩
    | succ k ih =>
      obtain ⟨l, hl, hr⟩ := ih (fun i hi => hat i (by omega))
      obtain ⟨v, cs', h1, h2, h3⟩ := hat k (by omega)
      refine ⟨l ++ [v], by simp [hl], fun i u hu => ?_⟩
      by_cases hi : i < l.length
      · rw [List.getElem?_append_left hi] at hu
        exact hr i u hu
      · rw [List.getElem?_append_right (by omega)] at hu
        have hi0 : i - l.length = 0 := by
          rcases hz : i - l.length with _ | q
          · rfl
          · rw [hz] at hu; simp at hu
        rw [hi0] at hu
        simp only [List.getElem?_cons_zero, Option.some.injEq] at hu
        subst hu
        have : i = k := by omega
        subst this
        exact ⟨cs', h1, h2, h3⟩
  obtain ⟨l, rfl, hr⟩ := hl2
  refine ⟨l, ⟨some a, cap, rfl, hl, rfl, Nat.le_trans hl (by simpa [maxLen] using hm), fun _ => ⟨a, rfl, fun j p hj => ?_⟩⟩, ?_, ?_⟩
  · obtain ⟨cs', h1, _, h3⟩ := hr j p hj
    obtain ⟨_, hlen, hcell⟩ := World.cells?_some h3
    refine ⟨cs', d.K_len h1, h1, fun i u hu => ?_⟩
    have hi : i < P.cellsOf e := by have := (List.getElem?_eq_some_iff.1 hu).1; omega
    have := hcell i hi
    rw [Go.Deep.add_add, hu, hc] at this
    exact this
  · intro y hy
    obtain ⟨i, hi⟩ := List.mem_iff_getElem?.1 hy
    obtain ⟨_, _, h2, _⟩ := hr i y hi
    exact h2
  · have := hw (((List.range l.length).map D).length + ((List.range (m - l.length)).map fun j => D (l.length + j)).length |> (· * P.bytesOf e)) (by
      simp [DataW.weights, ht])
    simp only [List.length_map, List.length_range] at this
    exact Nat.le_trans (Nat.mul_le_mul_right _ (Nat.le_add_right _ _)) this
theorem opensF_one {P : Program} {α : Type} {d : Kd α} {o : Nat} {f : Field} {Q : α → Prop} (hd : Opens P d f.type Q) (ho : f.offset = o) (hc : P.cellsOf f.type = d.sz) : OpensF P d o [f] Q := by
  intro H enc W base held n cs xs hl hx ht hw
  match xs, hx with
  | [x0], _ =>
    have h0 := ht 0 f rfl
    rw [ho, hc, List.take_of_length_le (by rw [List.length_drop]; omega)] at h0
    exact hd H enc W base held n _ x0 h0 (fun n hn => hw n (by simpa [DataW.weightsEach] using hn))
theorem opensF_cons {P : Program} {α β : Type} {d : Kd α} {d1 : Kd β} {o : Nat} {f : Field} {fs : List Field} {Q : α → Prop} {Q1 : β → Prop} (hd : Opens P d f.type Q) (ho : f.offset = o) (hc : P.cellsOf f.type = d.sz)
    (hr : OpensF P d1 (o + d.sz) fs Q1) : OpensF P (Kd.pair d d1) o (f :: fs) (fun x => Q x.1 ∧ Q1 x.2) := by
  intro H enc W base held n cs xs hl hx ht hw
  match xs, hx with
  | x0 :: xs, hx =>
    have h0 := ht 0 f rfl
    rw [ho, hc] at h0
    have hlp : cs.length = o + (d.sz + d1.sz) := hl
    obtain ⟨v, hv, hq⟩ := hd H enc W base held n _ x0 h0 (fun n hn => hw n (by
      simp only [List.map_cons, DataW.weightsEach, List.mem_append]; exact .inl hn))
    obtain ⟨v1, hv1, hq1⟩ := hr H enc W base held n cs xs (by omega) (by simpa using hx) (fun i g hg => by simpa using ht (i + 1) g (by simpa using hg)) (fun n hn => hw n (by
      simp only [List.map_cons, DataW.weightsEach, List.mem_append]; exact .inr hn))
    refine ⟨(v, v1), ⟨_, _, ?_, hv, hv1⟩, hq, hq1⟩
    rw [← List.drop_drop, List.take_append_drop]
theorem opens_struct {P : Program} {α : Type} {d : Kd α} {t : TypeId} {fs : Array Field} {Q : α → Prop} (ht : P.underlying t = some (.struct fs)) (hc : P.cellsOf t = d.sz) (hd : OpensF P d 0 fs.toList Q) : Opens P d t Q := by
  intro H enc W base held fuel cs x h hw
  obtain ⟨xs, n, _, rfl, hl, hlen, hf⟩ := DataW.trod_struct ht h
  have := hd H enc W base held n cs xs (by omega) (by simpa using hlen) (fun i f hi => hf i f (by simpa using hi)) (fun n hn => hw n (by simpa [DataW.weights, ht] using hn))
  simpa using this
theorem opens_iso {P : Program} {α β : Type} {d : Kd α} {t : TypeId} {Q : α → Prop} (f : β → α) (g : α → β) (hfg : ∀ a, f (g a) = a) (h : Opens P d t Q) : Opens P (Kd.iso d f) t (fun x => Q (f x)) := by
  intro H enc W base held fuel cs x hx hw
  obtain ⟨v, hv, hq⟩ := h H enc W base held fuel cs x hx hw
  refine ⟨g v, ?_, ?_⟩
  · show d.K W (f (g v)) cs
    rw [hfg]; exact hv
  · show Q (f (g v))
    rw [hfg]; exact hq
theorem opens_mono {P : Program} {α : Type} {d : Kd α} {t : TypeId} {Q Q' : α → Prop} (h : Opens P d t Q) (hq : ∀ a, Q a → Q' a) : Opens P d t Q' := by
  intro H enc W base held fuel cs x hx hw
  obtain ⟨v, hv, h1⟩ := h H enc W base held fuel cs x hx hw
  exact ⟨v, hv, hq v h1⟩
theorem opened {P : Program} {α : Type} {d : Kd α} {t : TypeId} {Q : α → Prop} (h : Opens P d t Q) {H : Type} {enc : TypeId × Value → H} {W : World} {base : Nat} {held : Bool} {v : Value} {x : DataW H} {p : List MemPlace}
    (ht : DataW.Trod enc P W base (fun _ => true) held t v x p) {ts : List TypeId} {ds : List (DataW H)} (hsz : (DataW.weightsEach P ts ds).all (· ≤ reachBytes) = true) (j : Nat) (hj : ts[j]? = some t) (hd : ds[j]? = some x) :
    ∃ a, d.K W a v.cells.toList ∧ Q a := by
  obtain ⟨fuel, hf⟩ := ht
  refine h H enc W base held fuel _ _ hf (fun n hn => ?_)
  have := List.all_eq_true.1 hsz n (DataW.weights_mem_each hj hd n hn)
  simpa using this
theorem open_struct {P : Program} {α : Type} {d : Kd α} {t : TypeId} {Q : α → Prop} (O : Opens P d t Q) {fs : Array Field} (hs : P.underlying t = some (.struct fs)) {H : Type} {enc : TypeId × Value → H} {W : World} {base b0 : Nat} {held : Bool} {r : Reach} {v : Value}
    {x : DataW H} {p : List MemPlace} (hv : Value.okWide P W r b0 t v) (ht : DataW.Trod enc P W base (fun _ => true) held t v x p) {ts : List TypeId} {ds : List (DataW H)} (hsz : (DataW.weightsEach P ts ds).all (· ≤ reachBytes) = true)
    (j : Nat) (hj : ts[j]? = some t) (hd : ds[j]? = some x) : ∃ a cs, v = .agg (List.toArray cs) ∧ d.K W a cs ∧ Q a := by
  obtain ⟨a, hK, hQ⟩ := opened O ht hsz j hj hd
  obtain ⟨cs, rfl, _⟩ := okWide_struct hs hv
  exact ⟨a, cs.toList, by rw [Array.toArray_toList], hK, hQ⟩
theorem open_row {P : Program} {α : Type} {d : Kd α} {t e : TypeId} {Q : α → Prop} (O : Opens P d e Q) (hs : P.underlying t = some (.slice e)) (hc : P.cellsOf e = d.sz) {H : Type} {enc : TypeId × Value → H} {W : World} {base b0 : Nat} {held : Bool} {r : Reach} {v : Value}
    {x : DataW H} {p : List MemPlace} (hv : Value.okWide P W r b0 t v) (ht : DataW.Trod enc P W base (fun _ => true) held t v x p) {ts : List TypeId} {ds : List (DataW H)} (hsz : (DataW.weightsEach P ts ds).all (· ≤ reachBytes) = true)
    (j : Nat) (hj : ts[j]? = some t) (hd : ds[j]? = some x) : ∃ A l c, v = .slice A l.length c ∧ l.length ≤ c ∧ d.C W A l.length l ∧ (∀ y ∈ l, Q y) ∧ l.length * P.bytesOf e ≤ reachBytes := by
  obtain ⟨l, hK, hQ, hb⟩ := opened (opens_slice (ek := 0) hs O hc) ht hsz j hj hd
  obtain ⟨A, len, cap, rfl⟩ := okWide_slice hs hv
  obtain ⟨A', c, hcs, hl, hC⟩ := hK
  have hcs' : [Value.slice A len cap] = [Value.slice A' l.length c] := hcs
  injection hcs' with h1 _
  injection h1 with h2 h3 h4
  subst h2; subst h3; subst h4
  exact ⟨A, l, cap, rfl, hl, hC, hQ, hb⟩
end Go.Proofs.Ytfeeahjaeapkoaa.Ext
end

section
namespace Go.Proofs.Ytfeeahjaeapkoaa.Ext
set_option linter.unusedVariables false
open Go.RowKit Go.Proofs.YtfeeahjaeapkoaaW.PrintWords Go.Proofs.Ytfeeahjaeapkoaa.P
def kTwo : Kd (Int × Int) := Kd.pair (Kd.int .i64) (Kd.int .i64)
theorem two_open {W : World} {x : Int × Int} {cs : List Value} (h : kTwo.K W x cs) : cs = [.int .i64 x.1, .int .i64 x.2] := by
  obtain ⟨_, _, rfl, rfl, rfl⟩ := h; rfl
end Go.Proofs.Ytfeeahjaeapkoaa.Ext
end

section
namespace Go.Proofs.Ytfeeahjaeapkoaa.Ext
set_option linter.unusedVariables false
open Go.RowKit Go.Proofs.YtfeeahjaeapkoaaW.PrintWords Go.Proofs.Ytfeeahjaeapkoaa.P
theorem opens_s27 : Opens Try.prog k27 27 (fun x => x.f1.length ≤ 8796093022208 ∧ x.f2.length ≤ 17592186044416) := by
  refine opens_mono (opens_iso (fun x : S27 => (x.f0, x.f1, x.f2)) (fun p => ⟨p.1, p.2.1, p.2.2⟩) (fun _ => rfl) (Q := fun x => (Lit.int .i64 x.1).wf = true ∧ ((∀ s ∈ x.2.1, s.size ≤ reachBytes) ∧ x.2.1.length * Try.prog.bytesOf 9 ≤ reachBytes) ∧ ((∀ n ∈ x.2.2, (Lit.int .i64 n).wf = true) ∧ x.2.2.length * Try.prog.bytesOf 2 ≤ reachBytes)) ?_) (fun x h => ?_)
  · refine opens_struct Try.underlying27 (by kernel_rfl) ?_
    show OpensF _ (Kd.pair _ (Kd.pair _ _)) 0 [_, _, _] _
    exact (opensF_cons (opens_int (k := .i64) (by kernel_rfl)) (by rfl) (by kernel_rfl)
      (opensF_cons (opens_slice (by kernel_rfl) (opens_string (t := 9) (by kernel_rfl)) (by kernel_rfl)) (by rfl) (by kernel_rfl)
        (opensF_one (opens_slice (by kernel_rfl) (opens_int (t := 2) (k := .i64) (by kernel_rfl)) (by kernel_rfl)) (by rfl) (by kernel_rfl))))
  · have h1 := h.2.1.2
    have h2 := h.2.2.2
    rw [show Try.prog.bytesOf 9 = 16 by kernel_rfl] at h1
    rw [show Try.prog.bytesOf 2 = 8 by kernel_rfl] at h2
    have h3 := reachBytes_lt
    have h4 : (2 : Nat) ^ 47 = 140737488355328 := by decide
    have e1 : (x.f1 : List ByteArray).length * 16 ≤ reachBytes := h1
    have e2 : (x.f2 : List Int).length * 8 ≤ reachBytes := h2
    omega
end Go.Proofs.Ytfeeahjaeapkoaa.Ext
end

section
namespace Go.Proofs.Ytfeeahjaeapkoaa.Ext
set_option linter.unusedVariables false
open Go.RowKit Go.Proofs.YtfeeahjaeapkoaaW.PrintWords Go.Proofs.Ytfeeahjaeapkoaa.P
theorem opens_span : Opens Try.prog kTwo 44 (fun x => True) := by
  refine opens_mono (Q := fun x => (Lit.int .i64 x.1).wf = true ∧ (Lit.int .i64 x.2).wf = true) ?_ (fun _ _ => trivial)
  refine opens_struct Try.underlying44 (by kernel_rfl) ?_
  show OpensF _ (Kd.pair _ _) 0 [_, _] _
  exact (opensF_cons (opens_int (k := .i64) (by kernel_rfl)) (by rfl) (by kernel_rfl) (opensF_one (opens_int (k := .i64) (by kernel_rfl)) (by rfl) (by kernel_rfl)))
end Go.Proofs.Ytfeeahjaeapkoaa.Ext
end

section
namespace Go.Proofs.Ytfeeahjaeapkoaa.factOwn
set_option linter.unusedVariables false
set_option linter.unusedSimpArgs false
open Go.RowKit Go.Proofs.YtfeeahjaeapkoaaW.PrintWords Go.Proofs.Ytfeeahjaeapkoaa.Lib
open Go.ChangeShapes Go.WideShapes Go.ChangeAt
open Go.ChangeMaps (open_string shut_string)
theorem own : ownKnob Try.prog.godebug = none := by kernel_rfl
theorem laidOut : laidOutB Try.prog = true := by kernel_rfl
open Go.Proofs.Ytfeeahjaeapkoaa.P Go.Proofs.Ytfeeahjaeapkoaa.Ext
set_option maxRecDepth 100000 in
theorem lifted (os : Os) (started : os.Started) (H : Type) (enc : TypeId × Value → H) :
    ReturnsInHanded {} Try.checked os 6 .any (Rows.factOwnSpec.pre6 enc Try.prog Try.f6 Rows.factOwnRow.domain false) (Rows.factOwnSpec.post enc Try.prog Try.f6 false true false false) := by
  refine returnsInHanded_of_change_sized (C := Try.checked) own started (by kernel_rfl) Try.func6
    (ChangeSpec.witness6 (enc := enc) (C := Try.checked) false ⟨#[], #[.slice none 0 0, .agg #[.int .i64 0, .int .i64 0]], []⟩ 8 (by kernel_rfl) (by kernel_rfl) (by kernel_rfl) (by kernel_rfl)) ?_
  intro W base args ds gs before hval0 hW hcnd hsz _
  have hval : ∀ (j : Nat) t v, Try.f6.params[j]? = some t → args[j]? = some v → Value.okWide Try.prog W .any base t v := hval0
  have hW' := hW
  obtain ⟨p, q, hA0, hV, rfl, hfz, hnd⟩ := hW
  have hA : DataW.TrodAll enc Try.prog W 0 (fun _ => true) true Try.f6.params.toList args.toList ds p := hA0
  rw [Try.params6] at hA hval
  obtain ⟨v0, vs0, d0, ds0, p0, q0, hargs, rfl, rfl, h0, r0⟩ := trodAll_cons hA
  obtain ⟨v1, vs1, d1, ds1, p1, q1, rfl, rfl, rfl, h1, r1⟩ := trodAll_cons r0
  obtain ⟨rfl, rfl, rfl⟩ := trodAll_nil r1
  obtain rfl : args = #[v0, v1] := by cases args; simp_all
  obtain ⟨rfl, rfl⟩ := trodVars_none hV
  have k0 := h0
  have lt0 : ∀ x ∈ p0, x.block < W.heap.size := by obtain ⟨m, hm⟩ := k0; exact DataW.trod_lt m _ _ _ hm
  obtain ⟨A0, l0, c0, rfl, hl0, hC0, hQ0, hb0⟩ := open_row opens_s27 Try.underlying35 (by kernel_rfl) (hval 0 _ v0 rfl rfl) h0 hsz 0 rfl rfl
  have k1 := h1
  have lt1 : ∀ x ∈ p1, x.block < W.heap.size := by obtain ⟨m, hm⟩ := k1; exact DataW.trod_lt m _ _ _ hm
  obtain ⟨a1, cs1, rfl, hK1, hQ1⟩ := open_struct opens_span Try.underlying44 (hval 1 _ v1 rfl rfl) h1 hsz 1 rfl rfl
  obtain rfl := two_open hK1
  clear hA0 hval0
  refine (own_calls A0 c0 l0 a1.1 a1.2 W hC0 hl0 hQ0).mono fun e W' ⟨he, bel⟩ => ?_
  subst he
  exact ⟨_, rfl, _, _, _, [], _, [], hW', trodAll_mk1 (shut_bool Try.underlying4 _), (trodAll_cons_mk (Below.trod laidOut (by kernel_rfl) (of_decide_eq_true (by kernel_rfl)) k0 bel lt0) (trodAll_cons_mk (Below.trod laidOut (by kernel_rfl) (of_decide_eq_true (by kernel_rfl)) k1 bel lt1) trodAll_mk0)), rfl, bel.frame _, fun h => by cases h⟩
theorem proved : Rows.FactOwnSaid :=
  OpenClaim.holds_of_wide 6 Try.f6 rfl rfl rfl rfl rfl rfl rfl ⟨rfl, rfl, rfl, rfl, rfl⟩ rfl rfl rfl rfl rfl (by kernel_rfl) Try.func6 (by kernel_rfl)
    (of_decide_eq_true (by kernel_rfl)) (by unfold Func.isWrapper; first | (rw [if_pos (by decide +kernel)]; kernel_rfl) | (rw [if_neg (by decide +kernel)]; exact ⟨rfl, rfl⟩))
    (fun os started H enc _ => lifted os started H enc)
end Go.Proofs.Ytfeeahjaeapkoaa.factOwn
end
