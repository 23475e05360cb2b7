/- Texts of this repo, joined, without what this claim does not use: P4, P5, Lib, Reg, Text, Shelf, TextA, ExtGrow, StrSort, AggKinds, ExtValue, P2. -/
import Derived.Test.YtmjhgeinhhhodaaDAggTurns1
import Derived.Laws.CopyOwn
import Derived.Lib.SlBytesConst
import Derived.Laws.BitsLemmas
import Derived.Sort.EncStr
import Derived.Sort.Walk0
import Derived.Lib.SlicesCompact
import Derived.Lib.RowBridge
import Derived.Shelf.Small.Bits
import Derived.Shelf.Strconv.Itoa0
import Derived.Shelf.Sort.Plain
import Derived.Ground.Names2Prog
import Derived.Shelf.Slices.Clone
import Derived.Shelf.Slices.CompactS
import Derived.Shelf.Slices.Cells
import Derived.Shelf.Slices.In.SortNone
import Derived.Ground.SlgnProg
import Derived.Shelf.SlicesE.Clone
import Derived.Test.YtmjhgeinhhhodaaProg
import Derived.Sort.OwnSorted
import Derived.WalkLawsBesides
import Derived.WalkSpells
import Derived.Outline
import Derived.Laws.Tables
import Derived.Deep.WholeRow
import Derived.Laws.EntriesVeiled
section
namespace Go.Proofs.Ytmjhgeinhhhodaa.P
open Go.RowKit Go.Proofs.YtmjhgeinhhhodaaW.PrintWords Go.Proofs.YtmjhgeinhhhodaaW.PrintLast Go.Proofs.YtmjhgeinhhhodaaW.PrintMore
attribute [local go_sem] max2_int min2_int max_two min_two max_three min_three max_four min_four   -- for this text's walks alone
set_option linter.unusedVariables false
set_option linter.unusedSimpArgs false
open Go.Proofs.Ytmjhgeinhhhodaa.Ext (q1_ q2_ q3_ bk_ bw_ sz_ ne_ bx_)
attribute [local go_sem high] Go.Proofs.Ytmjhgeinhhhodaa.Ext.gtr_str Go.Proofs.Ytmjhgeinhhhodaa.Ext.leq_str Go.Proofs.Ytmjhgeinhhhodaa.Ext.geq_str
mutual
def gristmilllaw06_right.l0 : Nat → List (S44) → List (S44) → Int → Int → Int → Int → Int → Option (Int × Int × Int × Int × (List (S44)))
 | 0, _, _, _, _, _, _, _ => none
 | k + 1, x1, x8, x9, x110000, x110001, x113000, x113001 => if x9 < (x1.length : Int) then (gristmilllaw06_right.j1 k x1 x8 x9 (decide (x9 < 40)) x110000 x110001 x113000 x113001) else (gristmilllaw06_right.j1 k x1 x8 x9 false x110000 x110001 x113000 x113001)
def gristmilllaw06_right.j1 : Nat → List (S44) → List (S44) → Int → Bool → Int → Int → Int → Int → Option (Int × Int × Int × Int × (List (S44)))
 | 0, _, _, _, _, _, _, _, _ => none
 | k + 1, x1, x8, x9, x30, x110000, x110001, x113000, x113001 => if x30 = true then (if 0 ≤ x9 then (if x9 < (x1.length : Int) then (gristmilllaw06_right.l1 k x1 x8 x9 0 x110000 x110001 x113000 x113001 ((rd_T44 x1 x9).f0.f0) (([(⟨#[]⟩ : ByteArray), (⟨#[]⟩ : ByteArray)] : List ByteArray)) (([0, 0] : List Int))) else (none)) else (none)) else (some (x113000, x113001, x110000, x110001, x8))
def gristmilllaw06_right.l1 : Nat → List (S44) → List (S44) → Int → Int → Int → Int → Int → Int → Int → List ByteArray → List Int → Option (Int × Int × Int × Int × (List (S44)))
 | 0, _, _, _, _, _, _, _, _, _, _, _ => none
 | k + 1, x1, x8, x9, x11, x110000, x110001, x113000, x113001, x123000, x123001, x123002 => if x11 < 2 then (if 0 ≤ x9 then (if x9 < (x1.length : Int) then (if x11 < (((rd_T44 x1 x9).f0.f1).length : Int) then (if 0 ≤ x11 then (gristmilllaw06_right.j3 k x1 x8 x9 x11 (decide (((rdOf ByteArray.empty ((rd_T44 x1 x9).f0.f1) x11).size : Int) ≤ 64)) x110000 x110001 x113000 x113001 x123000 x123001 x123002) else (none)) else (gristmilllaw06_right.j3 k x1 x8 x9 x11 false x110000 x110001 x113000 x113001 x123000 x123001 x123002)) else (none)) else (none)) else (if 0 ≤ x9 then (if x9 < (x1.length : Int) then (if x8.length < 2199023255552 then (gristmilllaw06_right.l0 k x1 (x8 ++ [(⟨(⟨x123000, x123001, x123002⟩ : S42), Int.tmod ((rd_T44 x1 x9).f1) 1125899906842624⟩ : S44)]) (wrap64 (x9 + 1)) x110000 x110001 x113000 x113001) else (none)) else (none)) else (none))
def gristmilllaw06_right.j3 : Nat → List (S44) → List (S44) → Int → Int → Bool → Int → Int → Int → Int → Int → List ByteArray → List Int → Option (Int × Int × Int × Int × (List (S44)))
 | 0, _, _, _, _, _, _, _, _, _, _, _, _ => none
 | k + 1, x1, x8, x9, x11, x67, x110000, x110001, x113000, x113001, x123000, x123001, x123002 => if x67 = true then (if 0 ≤ x9 then (if x9 < (x1.length : Int) then (if 0 ≤ x11 then (if x11 < (((rd_T44 x1 x9).f0.f1).length : Int) then (if x11 < (x123001.length : Int) then ((some (x123001.set (x11 : Int).toNat (rdOf ByteArray.empty ((rd_T44 x1 x9).f0.f1) x11) : List ByteArray)).bind fun y132 => (if x11 < (((rd_T44 x1 x9).f0.f2).length : Int) then (if x11 < (x123002.length : Int) then (gristmilllaw06_right.l1 k x1 x8 x9 (wrap64 (x11 + 1)) x110000 x110001 x113000 x113001 x123000 y132 (x123002.set (x11 : Int).toNat (rd ((rd_T44 x1 x9).f0.f2) x11))) else (none)) else (gristmilllaw06_right.l1 k x1 x8 x9 (wrap64 (x11 + 1)) x110000 x110001 x113000 x113001 x123000 y132 x123002))) else (none)) else (none)) else (none)) else (none)) else (none)) else (if 0 ≤ x9 then (if x9 < (x1.length : Int) then (if x11 < (((rd_T44 x1 x9).f0.f2).length : Int) then (if 0 ≤ x11 then (if x11 < (x123002.length : Int) then (gristmilllaw06_right.l1 k x1 x8 x9 (wrap64 (x11 + 1)) x110000 x110001 x113000 x113001 x123000 x123001 (x123002.set (x11 : Int).toNat (rd ((rd_T44 x1 x9).f0.f2) x11))) else (none)) else (none)) else (gristmilllaw06_right.l1 k x1 x8 x9 (wrap64 (x11 + 1)) x110000 x110001 x113000 x113001 x123000 x123001 x123002)) else (none)) else (none))
end
def gristmilllaw06_right.f (k : Nat) (a0_0 : Int) (a0_1 : Int) (l1 : List (S44)) : Option (Int × Int × Int × Int × (List (S44))) := (gristmilllaw06_abs.f a0_0).bind fun t113 => ((gristmilllaw06_abs.f a0_1).bind fun t114 => (gristmilllaw06_right.l0 k l1 ([] : List (S44)) 0 (wrap64 (1 + (Int.tmod t113 5))) (Int.tmod t114 2) 2 2))
theorem gristmilllaw06_right.mono_l : ∀ k, (∀ y0 y1 y2 y3 y4 y5 y6, LeO (gristmilllaw06_right.l0 k y0 y1 y2 y3 y4 y5 y6) (gristmilllaw06_right.l0 (k + 1) y0 y1 y2 y3 y4 y5 y6)) ∧ (∀ y0 y1 y2 y3 y4 y5 y6 y7, LeO (gristmilllaw06_right.j1 k y0 y1 y2 y3 y4 y5 y6 y7) (gristmilllaw06_right.j1 (k + 1) y0 y1 y2 y3 y4 y5 y6 y7)) ∧ (∀ y0 y1 y2 y3 y4 y5 y6 y7 y8 y9 y10, LeO (gristmilllaw06_right.l1 k y0 y1 y2 y3 y4 y5 y6 y7 y8 y9 y10) (gristmilllaw06_right.l1 (k + 1) y0 y1 y2 y3 y4 y5 y6 y7 y8 y9 y10)) ∧ (∀ y0 y1 y2 y3 y4 y5 y6 y7 y8 y9 y10 y11, LeO (gristmilllaw06_right.j3 k y0 y1 y2 y3 y4 y5 y6 y7 y8 y9 y10 y11) (gristmilllaw06_right.j3 (k + 1) y0 y1 y2 y3 y4 y5 y6 y7 y8 y9 y10 y11))
 | 0 => ⟨fun _ _ _ _ _ _ _ r h => by simp [gristmilllaw06_right.l0] at h, fun _ _ _ _ _ _ _ _ r h => by simp [gristmilllaw06_right.j1] at h, fun _ _ _ _ _ _ _ _ _ _ _ r h => by simp [gristmilllaw06_right.l1] at h, fun _ _ _ _ _ _ _ _ _ _ _ _ r h => by simp [gristmilllaw06_right.j3] at h⟩
 | k + 1 => by
  obtain ⟨ih0, ih1, ih2, ih3⟩ := gristmilllaw06_right.mono_l k
  refine ⟨?_, ?_, ?_, ?_⟩
  ·intro y0 y1 y2 y3 y4 y5 y6
   unfold gristmilllaw06_right.l0
   repeat' first
   | (with_reducible exact ih0 _ _ _ _ _ _ _)
   | (with_reducible exact ih1 _ _ _ _ _ _ _ _)
   | (with_reducible exact ih2 _ _ _ _ _ _ _ _ _ _ _)
   | (with_reducible exact ih3 _ _ _ _ _ _ _ _ _ _ _ _)
   | (with_reducible exact LeO.refl _)
   | (with_reducible exact LeO.none _)
   | (with_reducible refine LeO.ite ?_ ?_)
   | (with_reducible refine LeO.bind ?_ (fun _ => ?_))
   | exact ih0 _ _ _ _ _ _ _
   | exact ih1 _ _ _ _ _ _ _ _
   | exact ih2 _ _ _ _ _ _ _ _ _ _ _
   | exact ih3 _ _ _ _ _ _ _ _ _ _ _ _
   | exact LeO.none _
   | refine LeO.ite ?_ ?_
   | refine LeO.bind ?_ (fun _ => ?_)
  ·intro y0 y1 y2 y3 y4 y5 y6 y7
   unfold gristmilllaw06_right.j1
   repeat' first
   | (with_reducible exact ih0 _ _ _ _ _ _ _)
   | (with_reducible exact ih1 _ _ _ _ _ _ _ _)
   | (with_reducible exact ih2 _ _ _ _ _ _ _ _ _ _ _)
   | (with_reducible exact ih3 _ _ _ _ _ _ _ _ _ _ _ _)
   | (with_reducible exact LeO.refl _)
   | (with_reducible exact LeO.none _)
   | (with_reducible refine LeO.ite ?_ ?_)
   | (with_reducible refine LeO.bind ?_ (fun _ => ?_))
   | exact ih0 _ _ _ _ _ _ _
   | exact ih1 _ _ _ _ _ _ _ _
   | exact ih2 _ _ _ _ _ _ _ _ _ _ _
   | exact ih3 _ _ _ _ _ _ _ _ _ _ _ _
   | exact LeO.none _
   | refine LeO.ite ?_ ?_
   | refine LeO.bind ?_ (fun _ => ?_)
  ·intro y0 y1 y2 y3 y4 y5 y6 y7 y8 y9 y10
   unfold gristmilllaw06_right.l1
   repeat' first
   | (with_reducible exact ih0 _ _ _ _ _ _ _)
   | (with_reducible exact ih1 _ _ _ _ _ _ _ _)
   | (with_reducible exact ih2 _ _ _ _ _ _ _ _ _ _ _)
   | (with_reducible exact ih3 _ _ _ _ _ _ _ _ _ _ _ _)
   | (with_reducible exact LeO.refl _)
   | (with_reducible exact LeO.none _)
   | (with_reducible refine LeO.ite ?_ ?_)
   | (with_reducible refine LeO.bind ?_ (fun _ => ?_))
   | exact ih0 _ _ _ _ _ _ _
   | exact ih1 _ _ _ _ _ _ _ _
   | exact ih2 _ _ _ _ _ _ _ _ _ _ _
   | exact ih3 _ _ _ _ _ _ _ _ _ _ _ _
   | exact LeO.none _
   | refine LeO.ite ?_ ?_
   | refine LeO.bind ?_ (fun _ => ?_)
  ·intro y0 y1 y2 y3 y4 y5 y6 y7 y8 y9 y10 y11
   unfold gristmilllaw06_right.j3
   repeat' first
   | (with_reducible exact ih0 _ _ _ _ _ _ _)
   | (with_reducible exact ih1 _ _ _ _ _ _ _ _)
   | (with_reducible exact ih2 _ _ _ _ _ _ _ _ _ _ _)
   | (with_reducible exact ih3 _ _ _ _ _ _ _ _ _ _ _ _)
   | (with_reducible exact LeO.refl _)
   | (with_reducible exact LeO.none _)
   | (with_reducible refine LeO.ite ?_ ?_)
   | (with_reducible refine LeO.bind ?_ (fun _ => ?_))
   | exact ih0 _ _ _ _ _ _ _
   | exact ih1 _ _ _ _ _ _ _ _
   | exact ih2 _ _ _ _ _ _ _ _ _ _ _
   | exact ih3 _ _ _ _ _ _ _ _ _ _ _ _
   | exact LeO.none _
   | refine LeO.ite ?_ ?_
   | refine LeO.bind ?_ (fun _ => ?_)
theorem gristmilllaw06_right.mono : ∀ a0 a1 a2 k, LeO (gristmilllaw06_right.f k a0 a1 a2) (gristmilllaw06_right.f (k + 1) a0 a1 a2) := by
 intro a0 a1 a2 k
 obtain ⟨ih0, ih1, ih2, ih3⟩ := gristmilllaw06_right.mono_l k
 unfold gristmilllaw06_right.f
 repeat' first
   | (with_reducible exact ih0 _ _ _ _ _ _ _)
   | (with_reducible exact ih1 _ _ _ _ _ _ _ _)
   | (with_reducible exact ih2 _ _ _ _ _ _ _ _ _ _ _)
   | (with_reducible exact ih3 _ _ _ _ _ _ _ _ _ _ _ _)
   | (with_reducible exact LeO.refl _)
   | (with_reducible exact LeO.none _)
   | (with_reducible refine LeO.ite ?_ ?_)
   | (with_reducible refine LeO.bind ?_ (fun _ => ?_))
   | exact ih0 _ _ _ _ _ _ _
   | exact ih1 _ _ _ _ _ _ _ _
   | exact ih2 _ _ _ _ _ _ _ _ _ _ _
   | exact ih3 _ _ _ _ _ _ _ _ _ _ _ _
   | exact LeO.none _
   | refine LeO.ite ?_ ?_
   | refine LeO.bind ?_ (fun _ => ?_)
def gristmilllaw06_right.T2 : Bool × List (List Nat × List Nat) := (true, [([], []), ([0], [0]), ([1], [1]), ([2], [2]), ([3], [3]), ([], []), ([5], [5]), ([6, 2], [6]), ([7], [7]), ([4, 8], [4, 8]), ([9, 7, 0, 1, 2, 3, 4, 5, 6, 7, 8, 9], [9])])
def gristmilllaw06_right.B2 : List Nat := [0, 1, 3, 7, 15, 0, 32, 103, 231, 511, 1023]
theorem gristmilllaw06_right.tab2 : rtab .any (opsOf Try.f11 2) = gristmilllaw06_right.T2 := by kernel_rfl
theorem gristmilllaw06_right.bits2 : waitsOk gristmilllaw06_right.T2.2 gristmilllaw06_right.B2 = true := by kernel_rfl
def gristmilllaw06_right.T12 : Bool × List (List Nat × List Nat) := (true, [([], []), ([0], [0]), ([], []), ([], []), ([], []), ([3, 4], [3, 4]), ([5], [5]), ([6], [6]), ([7], [7]), ([], []), ([8, 9], [8, 9]), ([10], [10]), ([1, 2, 0, 1, 2, 3, 4, 5, 6, 7, 8, 9, 10, 11], [1, 2]), ([12, 11, 0, 1, 2, 3, 4, 5, 6, 7, 8, 9, 10, 11], [11, 12])])
def gristmilllaw06_right.B12 : List Nat := [0, 1, 0, 0, 0, 24, 56, 120, 248, 0, 1016, 2040, 4095, 8191]
theorem gristmilllaw06_right.tab12 : rtab .any (opsOf Try.f11 12) = gristmilllaw06_right.T12 := by kernel_rfl
theorem gristmilllaw06_right.bits12 : waitsOk gristmilllaw06_right.T12.2 gristmilllaw06_right.B12 = true := by kernel_rfl
def gristmilllaw06_right.T14 : Bool × List (List Nat × List Nat) := (true, [([], []), ([0], [0]), ([], []), ([], []), ([], []), ([3, 4], [3, 4]), ([5], [5]), ([6], [6]), ([7], [7]), ([], []), ([8, 9], [8, 9]), ([10], [10]), ([1, 2, 0, 1, 2, 3, 4, 5, 6, 7, 8, 9, 10, 11], [1, 2]), ([12, 11, 0, 1, 2, 3, 4, 5, 6, 7, 8, 9, 10, 11], [11, 12])])
def gristmilllaw06_right.B14 : List Nat := [0, 1, 0, 0, 0, 24, 56, 120, 248, 0, 1016, 2040, 4095, 8191]
theorem gristmilllaw06_right.tab14 : rtab .any (opsOf Try.f11 14) = gristmilllaw06_right.T14 := by kernel_rfl
theorem gristmilllaw06_right.bits14 : waitsOk gristmilllaw06_right.T14.2 gristmilllaw06_right.B14 = true := by kernel_rfl
def gristmilllaw06_right.T15 : Bool × List (List Nat × List Nat) := (true, [([], []), ([], []), ([], []), ([], []), ([2, 3], [2, 3]), ([4], [4]), ([5], [5]), ([6], [6]), ([1, 7], [1, 7]), ([8], [8]), ([0, 9], [0, 9]), ([10, 10, 0, 1, 2, 3, 4, 5, 6, 7, 8, 9, 10], [0, 10])])
def gristmilllaw06_right.B15 : List Nat := [0, 0, 0, 0, 12, 28, 60, 124, 254, 510, 1023, 2047]
theorem gristmilllaw06_right.tab15 : rtab .any (opsOf Try.f11 15) = gristmilllaw06_right.T15 := by kernel_rfl
theorem gristmilllaw06_right.bits15 : waitsOk gristmilllaw06_right.T15.2 gristmilllaw06_right.B15 = true := by kernel_rfl
set_option maxHeartbeats 8000000 in
set_option maxRecDepth 100000 in
theorem gristmilllaw06_right.calls (k : Nat) (a0_0 : Int) (a0_1 : Int) (A1 : Option Addr) (c1 : Nat) (l1 : List (S44)) (r1 : Int) (r2 : Int) (r3 : Int) (r4 : Int) (r5 : List (S44)) (w : World) (hr1 : Kd.C k44 w A1 l1.length l1) (hc1 : l1.length ≤ c1) (h : gristmilllaw06_right.f k a0_0 a0_1 l1 = some (r1, r2, r3, r4, r5)) :
  Calls Try.prog 11 #[.agg #[.int .i64 a0_0, .int .i64 a0_1], .slice A1 l1.length c1] w fun e w' => ∃ v4_ : Value, e = .returned (.tuple #[.agg #[.int .i64 r1, .int .i64 r2], .agg #[.int .i64 r3, .int .i64 r4], v4_]) ∧ Kd.S k44 44 w' w.heap.size (fun _ => True) v4_ r5 ∧ Below w.heap.size w w' := by
 have hu23 := Try.underlying23
 have hu27 := Try.underlying27
 have hu42 := Try.underlying42
 have hu44 := Try.underlying44
 have HR1 := Aside0.mk hr1
 have HC1 := Aside0.mk hc1
 clear hr1 hc1
 have HB := Aside0.mk (Below.refl w.heap.size w)
 have H : ((gristmilllaw06_abs.f a0_0).bind fun t113 => ((gristmilllaw06_abs.f a0_1).bind fun t114 => (gristmilllaw06_right.l0 k l1 ([] : List (S44)) 0 (wrap64 (1 + (Int.tmod t113 5))) (Int.tmod t114 2) 2 2))) = some (r1, r2, r3, r4, r5) := h
 clear h
 replace H := Option.bind_eq_some_iff.mp H
 obtain ⟨t113, A30, H⟩ := H
 replace H : ((gristmilllaw06_abs.f a0_1).bind fun t114 => (gristmilllaw06_right.l0 k l1 ([] : List (S44)) 0 (wrap64 (1 + (Int.tmod t113 5))) (Int.tmod t114 2) 2 2)) = some (r1, r2, r3, r4, r5) := H
 have A3 := Aside0.mk A30
 clear A30
 replace H := Option.bind_eq_some_iff.mp H
 obtain ⟨t114, A40, H⟩ := H
 replace H : (gristmilllaw06_right.l0 k l1 ([] : List (S44)) 0 (wrap64 (1 + (Int.tmod t113 5))) (Int.tmod t114 2) 2 2) = some (r1, r2, r3, r4, r5) := H
 have A4 := Aside0.mk A40
 clear A40
 have H' := Aside0.mk H
 clear H
 go_enter Try.func11, Try.ntmps11
 try go_wp2_with (first | ((with_reducible refine gate_dst (N := 2) rfl ?_); (try (refine gate_guard (by rfl) ?_; dsimp only)); refine bx_ (N := 2) (cs := #[.int .i64 a0_0, .int .i64 a0_1]) (t := 23) ?_; intro gb109 hg w5 hbox hb; have n0_ := Aside0.mk (below_step (bw_ HB.out) hb); have n1_ := Aside0.mk (hbox); have n2_ := Aside0.mk (sz_ hg (bw_ HB.out)); have n3_ := n2_; clear HB; have HB := n0_; have BK109 := n1_; have GW109 := n2_; have GE109 := n3_; clear n0_ n1_ n2_ n3_; clear hb hbox hg) | ((with_reducible refine gate_dst (N := 4) rfl ?_); (try (refine gate_guard (by rfl) ?_; dsimp only)); refine bx_ (N := 4) (cs := #[.int .i64 0, .int .i64 0]) (t := 27) ?_; intro gb110 hg w6 hbox hb; have n0_ := Aside0.mk (blk_below (bk_ BK109.out) hb); have n1_ := Aside0.mk (below_step (bw_ HB.out) hb); have n2_ := Aside0.mk (hbox); have n3_ := Aside0.mk (sz_ hg (bw_ HB.out)); have n4_ := n3_; have n5_ := Aside0.mk (ne_ hg (blk_lt (bk_ BK109.out))); have n6_ := Aside0.mk n5_.out.symm; clear BK109 HB; have BK109 := n0_; have HB := n1_; have BK110 := n2_; have GW110 := n3_; have GE110 := n4_; have NB109_110 := n5_; have NB110_109 := n6_; clear n0_ n1_ n2_ n3_ n4_ n5_ n6_; clear hb hbox hg) | ((with_reducible refine gate_dst (N := 5) rfl ?_); (try (refine gate_guard (by rfl) ?_; dsimp only)); refine bx_ (N := 5) (cs := #[.int .i64 0, .int .i64 0]) (t := 23) ?_; intro gb111 hg w7 hbox hb; have n0_ := Aside0.mk (blk_below (bk_ BK109.out) hb); have n1_ := Aside0.mk (blk_below (bk_ BK110.out) hb); have n2_ := Aside0.mk (below_step (bw_ HB.out) hb); have n3_ := Aside0.mk (hbox); have n4_ := Aside0.mk (sz_ hg (bw_ HB.out)); have n5_ := n4_; have n6_ := Aside0.mk (ne_ hg (blk_lt (bk_ BK109.out))); have n7_ := Aside0.mk n6_.out.symm; have n8_ := Aside0.mk (ne_ hg (blk_lt (bk_ BK110.out))); have n9_ := Aside0.mk n8_.out.symm; clear BK109 BK110 HB; have BK109 := n0_; have BK110 := n1_; have HB := n2_; have BK111 := n3_; have GW111 := n4_; have GE111 := n5_; have NB109_111 := n6_; have NB111_109 := n7_; have NB110_111 := n8_; have NB111_110 := n9_; clear n0_ n1_ n2_ n3_ n4_ n5_ n6_ n7_ n8_ n9_; clear hb hbox hg) | ((with_reducible refine gate_dst (N := 7) rfl ?_); (try (refine gate_guard (by rfl) ?_; dsimp only)); refine bx_ (N := 7) (cs := #[.int .i64 0, .int .i64 0]) (t := 27) ?_; intro gb112 hg w8 hbox hb; have n0_ := Aside0.mk (blk_below (bk_ BK109.out) hb); have n1_ := Aside0.mk (blk_below (bk_ BK110.out) hb); have n2_ := Aside0.mk (blk_below (bk_ BK111.out) hb); have n3_ := Aside0.mk (below_step (bw_ HB.out) hb); have n4_ := Aside0.mk (hbox); have n5_ := Aside0.mk (sz_ hg (bw_ HB.out)); have n6_ := n5_; have n7_ := Aside0.mk (ne_ hg (blk_lt (bk_ BK109.out))); have n8_ := Aside0.mk n7_.out.symm; have n9_ := Aside0.mk (ne_ hg (blk_lt (bk_ BK110.out))); have n10_ := Aside0.mk n9_.out.symm; have n11_ := Aside0.mk (ne_ hg (blk_lt (bk_ BK111.out))); have n12_ := Aside0.mk n11_.out.symm; clear BK109 BK110 BK111 HB; have BK109 := n0_; have BK110 := n1_; have BK111 := n2_; have HB := n3_; have BK112 := n4_; have GW112 := n5_; have GE112 := n6_; have NB109_112 := n7_; have NB112_109 := n8_; have NB110_112 := n9_; have NB112_110 := n10_; have NB111_112 := n11_; have NB112_111 := n12_; clear n0_ n1_ n2_ n3_ n4_ n5_ n6_ n7_ n8_ n9_ n10_ n11_ n12_; clear hb hbox hg; have hnb9 := NB112_109.out; have hnc9 := NB109_112.out; have hnb10 := NB112_110.out; have hnc10 := NB110_112.out; have hnb11 := NB112_111.out; have hnc11 := NB111_112.out; have hcz12_0 : w8.cell? ⟨gb112, 0, none⟩ = some (.int .i64 0) := (blk_cell BK112.out 0).trans rfl; have hcz12_1 : w8.cell? ⟨gb112, 1, none⟩ = some (.int .i64 0) := (blk_cell BK112.out 1).trans rfl; have hfz12_0 := blk_frozen BK112.out 0; have hfz12_1 := blk_frozen BK112.out 1))
 have n0_ : Aside0 (((w8.setCell ⟨gb112, 0, none⟩ (.int .i64 2)).setCell ⟨gb112, 1, none⟩ (.int .i64 2)).heap[gb109]? = some (.cells #[.int .i64 a0_0, .int .i64 a0_1] 23 (0, 0))) := ⟨by (with_reducible repeat (first | refine blk_drewN ?_ _ | refine blk_drew ?_ | refine blk_alloc ?_ _)); refine blk_far ?_ NB109_112.out _; (with_reducible repeat (first | refine blk_drewN ?_ _ | refine blk_drew ?_ | refine blk_alloc ?_ _)); refine blk_far ?_ NB109_112.out _; (with_reducible repeat (first | refine blk_drewN ?_ _ | refine blk_drew ?_ | refine blk_alloc ?_ _)); exact BK109.out⟩
 have n1_ : Aside0 (((w8.setCell ⟨gb112, 0, none⟩ (.int .i64 2)).setCell ⟨gb112, 1, none⟩ (.int .i64 2)).heap[gb110]? = some (.cells #[.int .i64 0, .int .i64 0] 27 (0, 0))) := ⟨by (with_reducible repeat (first | refine blk_drewN ?_ _ | refine blk_drew ?_ | refine blk_alloc ?_ _)); refine blk_far ?_ NB110_112.out _; (with_reducible repeat (first | refine blk_drewN ?_ _ | refine blk_drew ?_ | refine blk_alloc ?_ _)); refine blk_far ?_ NB110_112.out _; (with_reducible repeat (first | refine blk_drewN ?_ _ | refine blk_drew ?_ | refine blk_alloc ?_ _)); exact BK110.out⟩
 have n2_ : Aside0 (((w8.setCell ⟨gb112, 0, none⟩ (.int .i64 2)).setCell ⟨gb112, 1, none⟩ (.int .i64 2)).heap[gb111]? = some (.cells #[.int .i64 0, .int .i64 0] 23 (0, 0))) := ⟨by (with_reducible repeat (first | refine blk_drewN ?_ _ | refine blk_drew ?_ | refine blk_alloc ?_ _)); refine blk_far ?_ NB111_112.out _; (with_reducible repeat (first | refine blk_drewN ?_ _ | refine blk_drew ?_ | refine blk_alloc ?_ _)); refine blk_far ?_ NB111_112.out _; (with_reducible repeat (first | refine blk_drewN ?_ _ | refine blk_drew ?_ | refine blk_alloc ?_ _)); exact BK111.out⟩
 have n3_ : Aside0 (((w8.setCell ⟨gb112, 0, none⟩ (.int .i64 2)).setCell ⟨gb112, 1, none⟩ (.int .i64 2)).heap[gb112]? = some (.cells #[.int .i64 2, .int .i64 2] 27 (0, 0))) := ⟨by (with_reducible repeat (first | refine blk_drewN ?_ _ | refine blk_drew ?_ | refine blk_alloc ?_ _)); refine blk_put (cs := #[.int .i64 2, .int .i64 0]) ?_ 1 _ rfl; (with_reducible repeat (first | refine blk_drewN ?_ _ | refine blk_drew ?_ | refine blk_alloc ?_ _)); refine blk_put (cs := #[.int .i64 0, .int .i64 0]) ?_ 0 _ rfl; (with_reducible repeat (first | refine blk_drewN ?_ _ | refine blk_drew ?_ | refine blk_alloc ?_ _)); exact BK112.out⟩
 have n4_ : Aside0 (Below w.heap.size w ((w8.setCell ⟨gb112, 0, none⟩ (.int .i64 2)).setCell ⟨gb112, 1, none⟩ (.int .i64 2))) := ⟨by repeat (first | (with_reducible first | exact HB.out | apply below_alloc | apply pw_below_drewN | apply below_drew1 | refine below_set ?_ GE109.out | refine below_set ?_ GE110.out | refine below_set ?_ GE111.out | refine below_set ?_ GE112.out) | exact HB.out)⟩
 (try clear BK109)
 (try clear BK110)
 (try clear BK111)
 (try clear BK112)
 (try clear HB)
 generalize ((w8.setCell ⟨gb112, 0, none⟩ (.int .i64 2)).setCell ⟨gb112, 1, none⟩ (.int .i64 2)) = w13 at n0_ n1_ n2_ n3_ n4_ ⊢
 have BK109 := n0_
 have BK110 := n1_
 have BK111 := n2_
 have BK112 := n3_
 have HB := n4_
 clear n0_ n1_ n2_ n3_ n4_
 have n0_ := Aside0.mk (blk_drew BK109.out)
 have n1_ := Aside0.mk (blk_drew BK110.out)
 have n2_ := Aside0.mk (blk_drew BK111.out)
 have n3_ := Aside0.mk (blk_drew BK112.out)
 have n4_ := Aside0.mk (below_drew1 HB.out)
 clear BK109
 clear BK110
 clear BK111
 clear BK112
 clear HB
 have BK109 := n0_
 have BK110 := n1_
 have BK111 := n2_
 have BK112 := n3_
 have HB := n4_
 clear n0_ n1_ n2_ n3_ n4_
 refine start_ (n := 11) (S := fun w' => w'.cell? ⟨gb109, 0, none⟩ = some (.int .i64 a0_0) ∧ w'.cell? ⟨gb109, 1, none⟩ = some (.int .i64 a0_1)) (ds := [10]) #[false, false, false, false, false, false, false, false, false, false, false] (by kernel_rfl) rfl rfl ⟨(blk_cell BK109.out 0).trans rfl, (blk_cell BK109.out 1).trans rfl⟩ (fun hHeld => ?_); refine with_tabW gristmilllaw06_right.tab2 gristmilllaw06_right.bits2 (fun HT_ HW_ => ?_)
 generalize w13.drew = w14 at BK109 BK110 BK111 BK112 HB hHeld ⊢
 refine pure_ (i := 0) (N := some 13) (v := ?_) (a' := ?_) #[true, false, false, false, false, false, false, false, false, false, false] rfl rfl (any_of HT_.out (by kernel_rfl)) (fun _ _ _ h => h) (Or.inl ⟨by rfl, ?_⟩) ?_ ?_
 rotate_left
 ·intro w'
  go_simp
  with_reducible rfl
 rotate_left
 ·simp only [Act.put, q1_, q2_, q3_, i64_w, i32_w]
  rfl
 refine pure_ (i := 5) (N := some 18) (v := ?_) (a' := ?_) #[true, false, false, false, false, true, false, false, false, false, false] rfl rfl (any_of HT_.out (by kernel_rfl)) (fun _ _ _ h => h) (Or.inl ⟨by rfl, ?_⟩) ?_ ?_
 rotate_left
 ·intro w'
  go_simp
  with_reducible rfl
 rotate_left
 ·simp only [Act.put, q1_, q2_, q3_, i64_w, i32_w]
  rfl
 refine take_ (i := 1) (N := some 14) (v := ?_) (a' := ?_) #[true, true, false, false, false, true, false, false, false, false, false] rfl rfl (take_ofW HT_.out HW_.out (by kernel_rfl)) (fun _ _ _ h => h) (Or.inl ⟨by rfl, ?_⟩) hHeld ?_ ?_
 rotate_left
 ·rintro w' ⟨s0, s1⟩
  go_simp
  with_reducible rfl
 rotate_left
 ·simp only [Act.put, q1_, q2_, q3_, i64_w, i32_w]
  rfl
 refine take_ (i := 6) (N := some 19) (v := ?_) (a' := ?_) #[true, true, false, false, false, true, true, false, false, false, false] rfl rfl (take_ofW HT_.out HW_.out (by kernel_rfl)) (fun _ _ _ h => h) (Or.inl ⟨by rfl, ?_⟩) hHeld ?_ ?_
 rotate_left
 ·rintro w' ⟨s0, s1⟩
  go_simp
  with_reducible rfl
 rotate_left
 ·simp only [Act.put, q1_, q2_, q3_, i64_w, i32_w]
  rfl
 refine one_ (i := 2) (N := some 15) #[true, true, true, false, false, true, true, false, false, false, false] rfl rfl (one_of HT_.out (by kernel_rfl)) (by decide) (fun K hK => ?_)
 refine goes_ Try.func25 (by kernel_rfl) rfl #[.int .i64 a0_0] (by rfl) rfl rfl (by (try simp only [List.map_toArray, List.map_cons, List.map_nil]); first | done | rfl | (simp only [List.length_drop, List.length_take]; rfl)) ?_
 with_reducible refine (gristmilllaw06_abs.calls a0_0 t113 _ A3.out).mono ?_
 rintro e w' ⟨rfl, ⟨nd, rfl⟩⟩
 refine ⟨_, rfl, ?_⟩
 refine hK.out _ _ ⟨(blk_cell BK109.out 0).trans rfl, (blk_cell BK109.out 1).trans rfl⟩ (fun hHeld => ?_)
 clear hK K
 refine norm_ (a' := ?_) ?_ ?_
 rotate_left
 ·show Act.put _ (some 15) _ = _
  simp only [Act.put, q1_, q2_, q3_, i64_w, i32_w]
  rfl
 refine pure_ (i := 3) (N := some 16) (v := ?_) (a' := ?_) #[true, true, true, true, false, true, true, false, false, false, false] rfl rfl (any_of HT_.out (by kernel_rfl)) (fun _ _ _ h => h) (Or.inl ⟨by rfl, ?_⟩) ?_ ?_
 rotate_left
 ·intro w'
  go_simp
  with_reducible rfl
 rotate_left
 ·simp only [Act.put, q1_, q2_, q3_, i64_w, i32_w]
  rfl
 refine pure_ (i := 4) (N := some 17) (v := ?_) (a' := ?_) #[true, true, true, true, true, true, true, false, false, false, false] rfl rfl (any_of HT_.out (by kernel_rfl)) (fun _ _ _ h => h) (Or.inl ⟨by rfl, ?_⟩) ?_ ?_
 rotate_left
 ·intro w'
  go_simp
  with_reducible rfl
 rotate_left
 ·simp only [Act.put, q1_, q2_, q3_, i64_w, i32_w]
  rfl
 refine one_ (i := 7) (N := some 20) #[true, true, true, true, true, true, true, true, false, false, false] rfl rfl (one_of HT_.out (by kernel_rfl)) (by decide) (fun K hK => ?_)
 refine goes_ Try.func25 (by kernel_rfl) rfl #[.int .i64 a0_1] (by rfl) rfl rfl (by (try simp only [List.map_toArray, List.map_cons, List.map_nil]); first | done | rfl | (simp only [List.length_drop, List.length_take]; rfl)) ?_
 with_reducible refine (gristmilllaw06_abs.calls a0_1 t114 _ A4.out).mono ?_
 rintro e w' ⟨rfl, ⟨nd, rfl⟩⟩
 refine ⟨_, rfl, ?_⟩
 refine hK.out _ _ ⟨(blk_cell BK109.out 0).trans rfl, (blk_cell BK109.out 1).trans rfl⟩ (fun hHeld => ?_)
 clear hK K
 refine norm_ (a' := ?_) ?_ ?_
 rotate_left
 ·show Act.put _ (some 20) _ = _
  simp only [Act.put, q1_, q2_, q3_, i64_w, i32_w]
  rfl
 refine pure_ (i := 8) (N := some 21) (v := ?_) (a' := ?_) #[true, true, true, true, true, true, true, true, true, false, false] rfl rfl (any_of HT_.out (by kernel_rfl)) (fun _ _ _ h => h) (Or.inl ⟨by rfl, ?_⟩) ?_ ?_
 rotate_left
 ·intro w'
  go_simp
  with_reducible rfl
 rotate_left
 ·simp only [Act.put, q1_, q2_, q3_, i64_w, i32_w]
  rfl
 refine pure_ (i := 9) (N := some 22) (v := ?_) (a' := ?_) #[true, true, true, true, true, true, true, true, true, true, false] rfl rfl (any_of HT_.out (by kernel_rfl)) (fun _ _ _ h => h) (Or.inl ⟨by rfl, ?_⟩) ?_ ?_
 rotate_left
 ·intro w'
  go_simp
  with_reducible rfl
 rotate_left
 ·simp only [Act.put, q1_, q2_, q3_, i64_w, i32_w]
  rfl
 refine last_ (i := 10) (N := none) #[true, true, true, true, true, true, true, true, true, true, true] rfl rfl (one_of HT_.out (by kernel_rfl)) (by decide) (fun K hK => ?_)
 have hs15 : w14.cell? ⟨gb109, 0, none⟩ = some (.int .i64 a0_0) := (blk_cell BK109.out 0).trans rfl
 have hfs15 := blk_frozen BK109.out 0
 have hns15_1 := NB110_109.out
 have hns15_2 := NB111_109.out
 have hns15_3 := NB112_109.out
 have hms15_1 := NB109_110.out
 have hms15_2 := NB109_111.out
 have hms15_3 := NB109_112.out
 have hs16 : w14.cell? ⟨gb109, 1, none⟩ = some (.int .i64 a0_1) := (blk_cell BK109.out 1).trans rfl
 have hfs16 := blk_frozen BK109.out 1
 have hns16_1 := NB110_109.out
 have hns16_2 := NB111_109.out
 have hns16_3 := NB112_109.out
 have hms16_1 := NB109_110.out
 have hms16_2 := NB109_111.out
 have hms16_3 := NB109_112.out
 refine skip_ (w1 := ?_) (by rfl) rfl ?_ ?_
 rotate_left
 ·go_simp
  rfl
 refine hK.out _ _ ?_
 clear hK K
 refine done_ (done_of HT_.out (by kernel_rfl)) ?_
 try go_wp2
 go_loopg [8, 9] k (fun kq v8 v9 w' => ∃ (x8_1 : List (S44)) (x9_1 : Int), v9 = .int .i64 x9_1 ∧ Aside0 (gristmilllaw06_right.l0 kq l1 x8_1 x9_1 (wrap64 (1 + (Int.tmod t113 5))) (Int.tmod t114 2) 2 2 = some (r1, r2, r3, r4, r5)) ∧ Aside0 (kq ≤ k) ∧ Aside0 (Kd.S k44 44 w' w.heap.size (fun _ => True) v8 x8_1) ∧ Aside0 (w'.heap[gb109]? = some (.cells #[.int .i64 (wrap64 (1 + (Int.tmod t113 5))), .int .i64 (Int.tmod t114 2)] 23 (0, 0))) ∧ Aside0 (w'.heap[gb110]? = some (.cells #[.int .i64 0, .int .i64 0] 27 (0, 0))) ∧ Aside0 (w'.heap[gb111]? = some (.cells #[.int .i64 0, .int .i64 0] 23 (0, 0))) ∧ Aside0 (w'.heap[gb112]? = some (.cells #[.int .i64 2, .int .i64 2] 27 (0, 0))) ∧ Aside0 (Below w.heap.size w w'))
 case atStart => exact ⟨(([] : List (S44))), (0), (by first | rfl | (simp; done) | (simp [*]; done)), H', ⟨Nat.le_refl _⟩, ⟨by first | exact Kd.S_nil _ _ _ _ _ | exact Kd.N_nil _ _ _ _ _ | exact Kd.V_nil _ _ _ _ _ | exact Kd.Q_nil _ _ _ _ _ | exact Kd.R_nil _ _ _ _ _⟩, ⟨by (with_reducible repeat (first | refine blk_drewN ?_ _ | refine blk_drew ?_ | refine blk_alloc ?_ _)); refine blk_put (cs := #[.int .i64 (wrap64 (1 + (Int.tmod t113 5))), .int .i64 a0_1]) ?_ 1 _ rfl; (with_reducible repeat (first | refine blk_drewN ?_ _ | refine blk_drew ?_ | refine blk_alloc ?_ _)); refine blk_put (cs := #[.int .i64 a0_0, .int .i64 a0_1]) ?_ 0 _ rfl; (with_reducible repeat (first | refine blk_drewN ?_ _ | refine blk_drew ?_ | refine blk_alloc ?_ _)); exact BK109.out⟩, ⟨by (with_reducible repeat (first | refine blk_drewN ?_ _ | refine blk_drew ?_ | refine blk_alloc ?_ _)); refine blk_far ?_ NB110_109.out _; (with_reducible repeat (first | refine blk_drewN ?_ _ | refine blk_drew ?_ | refine blk_alloc ?_ _)); refine blk_far ?_ NB110_109.out _; (with_reducible repeat (first | refine blk_drewN ?_ _ | refine blk_drew ?_ | refine blk_alloc ?_ _)); exact BK110.out⟩, ⟨by (with_reducible repeat (first | refine blk_drewN ?_ _ | refine blk_drew ?_ | refine blk_alloc ?_ _)); refine blk_far ?_ NB111_109.out _; (with_reducible repeat (first | refine blk_drewN ?_ _ | refine blk_drew ?_ | refine blk_alloc ?_ _)); refine blk_far ?_ NB111_109.out _; (with_reducible repeat (first | refine blk_drewN ?_ _ | refine blk_drew ?_ | refine blk_alloc ?_ _)); exact BK111.out⟩, ⟨by (with_reducible repeat (first | refine blk_drewN ?_ _ | refine blk_drew ?_ | refine blk_alloc ?_ _)); refine blk_far ?_ NB112_109.out _; (with_reducible repeat (first | refine blk_drewN ?_ _ | refine blk_drew ?_ | refine blk_alloc ?_ _)); refine blk_far ?_ NB112_109.out _; (with_reducible repeat (first | refine blk_drewN ?_ _ | refine blk_drew ?_ | refine blk_alloc ?_ _)); exact BK112.out⟩, ⟨by repeat (first | (with_reducible first | exact HB.out | apply below_alloc | apply pw_below_drewN | apply below_drew1 | refine below_set ?_ GE109.out | refine below_set ?_ GE110.out | refine below_set ?_ GE111.out | refine below_set ?_ GE112.out) | exact HB.out)⟩⟩
 case round =>
  clear H'
  try clear c1
  try clear c2
  try clear p2
  try clear p6
  try clear c9
  try clear c10
  try clear c11
  try clear hcz12_0
  try clear hcz12_1
  try clear hfz12_0
  try clear hfz12_1
  obtain ⟨x8_1, x9_1, rfl, HA, HK1, HO_8, BK109, BK110, BK111, BK112, HB⟩ := hrel
  cases gk with
  | zero => exact absurd HA.out (by simp [gristmilllaw06_right.l0])
  | succ k1 =>
   have H := HA.out
   clear HA
   simp only [gristmilllaw06_right.l0] at H
   have HC17 := Aside0.mk H
   clear H
   go_upto_region 5 with (fail)
   go_cut [30] (fun v30 wc => ∃ (kq : Nat) (x30_16 : Bool), v30 = .bool x30_16 ∧ Aside0 (gristmilllaw06_right.j1 kq l1 x8_1 x9_1 x30_16 (wrap64 (1 + (Int.tmod t113 5))) (Int.tmod t114 2) 2 2 = some (r1, r2, r3, r4, r5)) ∧ Aside0 (kq ≤ k1) ∧ Aside0 (Kd.S k44 44 wc w.heap.size (fun _ => True) u8 x8_1) ∧ Aside0 (wc.heap[gb109]? = some (.cells #[.int .i64 (wrap64 (1 + (Int.tmod t113 5))), .int .i64 (Int.tmod t114 2)] 23 (0, 0))) ∧ Aside0 (wc.heap[gb110]? = some (.cells #[.int .i64 0, .int .i64 0] 27 (0, 0))) ∧ Aside0 (wc.heap[gb111]? = some (.cells #[.int .i64 0, .int .i64 0] 23 (0, 0))) ∧ Aside0 (wc.heap[gb112]? = some (.cells #[.int .i64 2, .int .i64 2] 27 (0, 0))) ∧ Aside0 (Below w.heap.size w wc))
   case first =>
    have H := HC17.out
    clear HC17
    by_cases c18 : x9_1 < (l1.length : Int)
    ·rw [if_pos c18] at H
     have c18b0 : decide (x9_1 < (l1.length : Int)) = true := decide_eq_true c18
     clear c18
     (first | rw [c18b0] | (simp only [i64_w, i32_w]; rw [c18b0]) | skip)
     have H' := Aside0.mk H
     clear H
     go_wp2
     go_meet
     case rel => exact ⟨_, (decide (x9_1 < 40)), (by first | rfl | (simp; done) | (simp [*]; done)), H', ⟨by have := HK1.out; first | omega | exact Nat.le_refl _⟩, ⟨by (with_reducible repeat (first | apply Kd.S_alloc | apply Kd.S_drewN | apply Kd.S_drew)); exact HO_8.out⟩, ⟨by (with_reducible repeat (first | refine blk_drewN ?_ _ | refine blk_drew ?_ | refine blk_alloc ?_ _)); exact BK109.out⟩, ⟨by (with_reducible repeat (first | refine blk_drewN ?_ _ | refine blk_drew ?_ | refine blk_alloc ?_ _)); exact BK110.out⟩, ⟨by (with_reducible repeat (first | refine blk_drewN ?_ _ | refine blk_drew ?_ | refine blk_alloc ?_ _)); exact BK111.out⟩, ⟨by (with_reducible repeat (first | refine blk_drewN ?_ _ | refine blk_drew ?_ | refine blk_alloc ?_ _)); exact BK112.out⟩, ⟨by repeat (first | (with_reducible first | exact HB.out | apply below_alloc | apply pw_below_drewN | apply below_drew1 | refine below_set ?_ GE109.out | refine below_set ?_ GE110.out | refine below_set ?_ GE111.out | refine below_set ?_ GE112.out) | exact HB.out)⟩⟩
    ·rw [if_neg c18] at H
     have c18b0 : decide (x9_1 < (l1.length : Int)) = false := decide_eq_false c18
     clear c18
     (first | rw [c18b0] | (simp only [i64_w, i32_w]; rw [c18b0]) | skip)
     have H' := Aside0.mk H
     clear H
     go_wp2
     go_meet
     case rel => exact ⟨_, (false), (by first | rfl | (simp; done) | (simp [*]; done)), H', ⟨by have := HK1.out; first | omega | exact Nat.le_refl _⟩, ⟨by (with_reducible repeat (first | apply Kd.S_alloc | apply Kd.S_drewN | apply Kd.S_drew)); exact HO_8.out⟩, ⟨by (with_reducible repeat (first | refine blk_drewN ?_ _ | refine blk_drew ?_ | refine blk_alloc ?_ _)); exact BK109.out⟩, ⟨by (with_reducible repeat (first | refine blk_drewN ?_ _ | refine blk_drew ?_ | refine blk_alloc ?_ _)); exact BK110.out⟩, ⟨by (with_reducible repeat (first | refine blk_drewN ?_ _ | refine blk_drew ?_ | refine blk_alloc ?_ _)); exact BK111.out⟩, ⟨by (with_reducible repeat (first | refine blk_drewN ?_ _ | refine blk_drew ?_ | refine blk_alloc ?_ _)); exact BK112.out⟩, ⟨by repeat (first | (with_reducible first | exact HB.out | apply below_alloc | apply pw_below_drewN | apply below_drew1 | refine below_set ?_ GE109.out | refine below_set ?_ GE110.out | refine below_set ?_ GE111.out | refine below_set ?_ GE112.out) | exact HB.out)⟩⟩
   case rest =>
    clear HC17
    try clear c1
    try clear c2
    try clear p2
    try clear p6
    try clear c9
    try clear c10
    try clear c11
    try clear c18
    try clear c18b0
    try clear hcz12_0
    try clear hcz12_1
    try clear hfz12_0
    try clear hfz12_1
    try clear p2
    try clear p6
    obtain ⟨kq, x30_16, rfl, HA, HJ16, HO_8, BK109, BK110, BK111, BK112, HB⟩ := hcut
    cases kq with
    | zero => exact absurd HA.out (by simp [gristmilllaw06_right.j1])
    | succ kj16 =>
     have H := HA.out
     clear HA
     simp only [gristmilllaw06_right.j1] at H
     by_cases c19 : x30_16 = true
     ·subst c19
      have H1 : (if 0 ≤ x9_1 then (if x9_1 < (l1.length : Int) then (gristmilllaw06_right.l1 kj16 l1 x8_1 x9_1 0 (wrap64 (1 + (Int.tmod t113 5))) (Int.tmod t114 2) 2 2 ((rd_T44 l1 x9_1).f0.f0) (([(⟨#[]⟩ : ByteArray), (⟨#[]⟩ : ByteArray)] : List ByteArray)) (([0, 0] : List Int))) else (none)) else (none)) = some (r1, r2, r3, r4, r5) := by rw [if_pos rfl] at H; exact H
      clear H
      have H := H1
      clear H1
      by_cases c20 : 0 ≤ x9_1
      ·rw [if_pos c20] at H
       have c20b0 : decide (0 ≤ x9_1) = true := decide_eq_true c20
       clear c20
       by_cases c21 : x9_1 < (l1.length : Int)
       ·rw [if_pos c21] at H
        have c21b0 : decide (x9_1 < (l1.length : Int)) = true := decide_eq_true c21
        clear c21
        obtain ⟨y116, hy116⟩ : ∃ y_ : List ByteArray, y_ = (([(⟨#[]⟩ : ByteArray), (⟨#[]⟩ : ByteArray)] : List ByteArray)) := ⟨_, rfl⟩
        replace H : (gristmilllaw06_right.l1 kj16 l1 x8_1 x9_1 0 (wrap64 (1 + (Int.tmod t113 5))) (Int.tmod t114 2) 2 2 ((rd_T44 l1 x9_1).f0.f0) y116 (([0, 0] : List Int))) = some (r1, r2, r3, r4, r5) := by first | (rw [hy116]; with_reducible exact H) | (have H2_ := (Option.bind_some _ _).symm.trans H; rw [hy116]; with_reducible exact H2_) | (have H2_ := (Option.bind_some _ _).symm.trans H; with_reducible exact H2_) | with_reducible exact H | (rw [hy116]; exact H) | exact H
        have Ny116 := Aside0.mk hy116
        clear hy116
        obtain ⟨y119, hy119⟩ : ∃ y_ : List Int, y_ = (([0, 0] : List Int)) := ⟨_, rfl⟩
        replace H : (gristmilllaw06_right.l1 kj16 l1 x8_1 x9_1 0 (wrap64 (1 + (Int.tmod t113 5))) (Int.tmod t114 2) 2 2 ((rd_T44 l1 x9_1).f0.f0) y116 y119) = some (r1, r2, r3, r4, r5) := by first | (rw [hy119]; with_reducible exact H) | (have H2_ := (Option.bind_some _ _).symm.trans H; rw [hy119]; with_reducible exact H2_) | (have H2_ := (Option.bind_some _ _).symm.trans H; with_reducible exact H2_) | with_reducible exact H | (rw [hy119]; exact H) | exact H
        have Ny119 := Aside0.mk hy119
        clear hy119
        have H' := Aside0.mk H
        clear H
        have p115 : 0 ≤ (x9_1 : Int) := of_decide_eq_true (by assumption)
        have q115 : x9_1 < (l1.length : Int) := of_decide_eq_true (by assumption)
        obtain ⟨ad115, A115_1, c115_1, A115_2, c115_2, e115, hx115_0, hx115_1, hx115_2, hx115_3, hl115_1, hi115_1, hl115_2, hi115_2⟩ := at_T44 HR1.out x9_1 p115 q115
        cases e115
        replace hx115_0 := pw_cell_below HB.out hx115_0
        replace hx115_1 := pw_cell_below HB.out hx115_1
        replace hx115_2 := pw_cell_below HB.out hx115_2
        replace hx115_3 := pw_cell_below HB.out hx115_3
        have HR115_1 := Aside0.mk hi115_1
        have HC115_1 := Aside0.mk hl115_1
        clear hi115_1 hl115_1
        have HR115_2 := Aside0.mk hi115_2
        have HC115_2 := Aside0.mk hl115_2
        clear hi115_2 hl115_2
        replace p115 := eq_true p115
        replace q115 := eq_true q115
        go_wp2_with (first | ((with_reducible refine gate_dst (N := 39) rfl ?_); (try (refine gate_guard (by rfl) ?_; dsimp only)); refine Kd.R_lit Kd.string _ 9 ?hg (N := 39) ?hd (xs := ([(⟨#[]⟩ : ByteArray), (⟨#[]⟩ : ByteArray)] : List ByteArray)) (inner := [.string (⟨#[]⟩ : ByteArray), .string (⟨#[]⟩ : ByteArray)]) (ok := fun _ => True) (okp := fun _ => True) ?hr ?hp (fun _ hk => hk) trivial (Below.refl _ _) (Nat.le_refl _) (by simp) ?_; (case hd => rfl); (case hg => rfl); (case hr => first | (go_simp; done) | (go_simp; rfl)); (case hp => exact (Reps.one (show Kd.M Kd.string _ _ _ (⟨#[]⟩ : ByteArray) [.string (⟨#[]⟩ : ByteArray)] from rfl) (Reps.one (show Kd.M Kd.string _ _ _ (⟨#[]⟩ : ByteArray) [.string (⟨#[]⟩ : ByteArray)] from rfl) (Reps.none _ _)))); intro v117 w22 ho23 hb hg_ hnew_; clear hg_ hnew_; (first | rw [← Ny116.out] at ho23 | (simp only [Int.reduceToNat] at ho23; rw [← Ny116.out] at ho23)); have n0_ := Aside0.mk (Kd.S_elder' (by (with_reducible repeat (first | apply Kd.S_alloc | apply Kd.S_drewN | apply Kd.S_drew)); exact HO_8.out) (Kd.R_base ho23) hb); have n1_ := Aside0.mk (Kd.R_lower ho23 (below_size (bw_ HB.out))); have n2_ := Aside0.mk (blk_below (bk_ BK109.out) hb); have n3_ := Aside0.mk (blk_below (bk_ BK110.out) hb); have n4_ := Aside0.mk (blk_below (bk_ BK111.out) hb); have n5_ := Aside0.mk (blk_below (bk_ BK112.out) hb); have n6_ := Aside0.mk (below_step (bw_ HB.out) hb); clear HO_8 BK109 BK110 BK111 BK112 HB; have HO_8 := n0_; have HO118 := n1_; have BK109 := n2_; have BK110 := n3_; have BK111 := n4_; have BK112 := n5_; have HB := n6_; clear n0_ n1_ n2_ n3_ n4_ n5_ n6_; clear hb ho23) | ((with_reducible refine gate_dst (N := 40) rfl ?_); (try (refine gate_guard (by rfl) ?_; dsimp only)); refine Kd.R_lit (Kd.int .i64) _ 2 ?hg (N := 40) ?hd (xs := ([0, 0] : List Int)) (inner := [.int .i64 0, .int .i64 0]) (ok := fun _ => True) (okp := fun _ => True) ?hr ?hp (fun _ hk => hk) trivial (Below.refl _ _) (Nat.le_refl _) (by simp) ?_; (case hd => rfl); (case hg => rfl); (case hr => first | (go_simp; done) | (go_simp; rfl)); (case hp => exact (Reps.one (show Kd.M (Kd.int .i64) _ _ _ 0 [.int .i64 0] from rfl) (Reps.one (show Kd.M (Kd.int .i64) _ _ _ 0 [.int .i64 0] from rfl) (Reps.none _ _)))); intro v120 w24 ho25 hb hg_ hnew_; clear hg_ hnew_; (first | rw [← Ny119.out] at ho25 | (simp only [Int.reduceToNat] at ho25; rw [← Ny119.out] at ho25)); have n0_ := Aside0.mk (Kd.S_elder' (by (with_reducible repeat (first | apply Kd.S_alloc | apply Kd.S_drewN | apply Kd.S_drew)); exact HO_8.out) (Kd.R_base ho25) hb); have n1_ := Aside0.mk (Kd.R_below (by (with_reducible repeat (first | apply Kd.R_alloc | apply Kd.R_drewN | apply Kd.R_drew)); exact HO118.out) hb); have n2_ := Aside0.mk (Kd.R_lower ho25 (below_size (bw_ HB.out))); have n3_ := Aside0.mk (blk_below (bk_ BK109.out) hb); have n4_ := Aside0.mk (blk_below (bk_ BK110.out) hb); have n5_ := Aside0.mk (blk_below (bk_ BK111.out) hb); have n6_ := Aside0.mk (blk_below (bk_ BK112.out) hb); have n7_ := Aside0.mk (below_step (bw_ HB.out) hb); clear HO_8 HO118 BK109 BK110 BK111 BK112 HB; have HO_8 := n0_; have HO118 := n1_; have HO121 := n2_; have BK109 := n3_; have BK110 := n4_; have BK111 := n5_; have BK112 := n6_; have HB := n7_; clear n0_ n1_ n2_ n3_ n4_ n5_ n6_ n7_; clear hb ho25; obtain ⟨Ao26, co26, eo26⟩ := Kd.R_slice HO121.out; subst eo26; obtain ⟨Ao27, co27, eo27⟩ := Kd.R_slice HO118.out; subst eo27) | ((with_reducible refine gate_dst (N := 10) rfl ?_); (try (refine gate_guard (by rfl) ?_; dsimp only)); refine bx_ (N := 10) (cs := #[.int .i64 0, .slice none 0 0, .slice none 0 0]) (t := 42) ?_; intro gb122 hg w28 hbox hb; have n0_ := Aside0.mk (Kd.S_below (by (with_reducible repeat (first | apply Kd.S_alloc | apply Kd.S_drewN | apply Kd.S_drew)); exact HO_8.out) hb); have n1_ := Aside0.mk (Kd.R_below (by (with_reducible repeat (first | apply Kd.R_alloc | apply Kd.R_drewN | apply Kd.R_drew)); exact HO118.out) hb); have n2_ := Aside0.mk (Kd.R_below (by (with_reducible repeat (first | apply Kd.R_alloc | apply Kd.R_drewN | apply Kd.R_drew)); exact HO121.out) hb); have n3_ := Aside0.mk (blk_below (bk_ BK109.out) hb); have n4_ := Aside0.mk (blk_below (bk_ BK110.out) hb); have n5_ := Aside0.mk (blk_below (bk_ BK111.out) hb); have n6_ := Aside0.mk (blk_below (bk_ BK112.out) hb); have n7_ := Aside0.mk (below_step (bw_ HB.out) hb); have n8_ := Aside0.mk (hbox); have n9_ := Aside0.mk (sz_ hg (bw_ HB.out)); have n10_ := n9_; have n11_ := Aside0.mk (ne_ hg (blk_lt (bk_ BK109.out))); have n12_ := Aside0.mk n11_.out.symm; have n13_ := Aside0.mk (ne_ hg (blk_lt (bk_ BK110.out))); have n14_ := Aside0.mk n13_.out.symm; have n15_ := Aside0.mk (ne_ hg (blk_lt (bk_ BK111.out))); have n16_ := Aside0.mk n15_.out.symm; have n17_ := Aside0.mk (ne_ hg (blk_lt (bk_ BK112.out))); have n18_ := Aside0.mk n17_.out.symm; clear HO_8 HO118 HO121 BK109 BK110 BK111 BK112 HB; have HO_8 := n0_; have HO118 := n1_; have HO121 := n2_; have BK109 := n3_; have BK110 := n4_; have BK111 := n5_; have BK112 := n6_; have HB := n7_; have BK122 := n8_; have GW122 := n9_; have GE122 := n10_; have NB109_122 := n11_; have NB122_109 := n12_; have NB110_122 := n13_; have NB122_110 := n14_; have NB111_122 := n15_; have NB122_111 := n16_; have NB112_122 := n17_; have NB122_112 := n18_; clear n0_ n1_ n2_ n3_ n4_ n5_ n6_ n7_ n8_ n9_ n10_ n11_ n12_ n13_ n14_ n15_ n16_ n17_ n18_; clear hb hbox hg; have hnb29 := NB122_109.out; have hnc29 := NB109_122.out; have hnb30 := NB122_110.out; have hnc30 := NB110_122.out; have hnb31 := NB122_111.out; have hnc31 := NB111_122.out; have hnb32 := NB122_112.out; have hnc32 := NB112_122.out; have hcz33_0 : w28.cell? ⟨gb122, 0, none⟩ = some (.int .i64 0) := (blk_cell BK122.out 0).trans rfl; have hcz33_1 : w28.cell? ⟨gb122, 1, none⟩ = some (.slice none 0 0) := (blk_cell BK122.out 1).trans rfl; have hcz33_2 : w28.cell? ⟨gb122, 2, none⟩ = some (.slice none 0 0) := (blk_cell BK122.out 2).trans rfl; have hfz33_0 := blk_frozen BK122.out 0; have hfz33_1 := blk_frozen BK122.out 1; have hfz33_2 := blk_frozen BK122.out 2))
        go_loopg [11] kj16 (fun kq v11 w' => ∃ (x11_3 : Int) (x123001_3 : List ByteArray) (x123002_3 : List Int) (u123001 : Value) (u123002 : Value), v11 = .int .i64 x11_3 ∧ Aside0 (gristmilllaw06_right.l1 kq l1 x8_1 x9_1 x11_3 (wrap64 (1 + (Int.tmod t113 5))) (Int.tmod t114 2) 2 2 ((rd_T44 l1 x9_1).f0.f0) x123001_3 x123002_3 = some (r1, r2, r3, r4, r5)) ∧ Aside0 (kq ≤ kj16) ∧ Aside0 (Kd.S k44 44 w' w.heap.size (fun k_ => some k_ ≠ (u123001 : Value).ownBlock ∧ some k_ ≠ (u123002 : Value).ownBlock) u8 x8_1) ∧ Aside0 (Kd.R Kd.string 9 w' w.heap.size (fun _ => True) u123001 x123001_3) ∧ Aside0 (Kd.R (Kd.int .i64) 2 w' w.heap.size (fun _ => True) u123002 x123002_3) ∧ Aside0 (w'.heap[gb109]? = some (.cells #[.int .i64 (wrap64 (1 + (Int.tmod t113 5))), .int .i64 (Int.tmod t114 2)] 23 (0, 0))) ∧ Aside0 (w'.heap[gb110]? = some (.cells #[.int .i64 0, .int .i64 0] 27 (0, 0))) ∧ Aside0 (w'.heap[gb111]? = some (.cells #[.int .i64 0, .int .i64 0] 23 (0, 0))) ∧ Aside0 (w'.heap[gb112]? = some (.cells #[.int .i64 2, .int .i64 2] 27 (0, 0))) ∧ Aside0 (w'.heap[gb122]? = some (.cells #[.int .i64 ((rd_T44 l1 x9_1).f0.f0), u123001, u123002] 42 (0, 0))) ∧ Aside0 (Below w.heap.size w w'))
        case atStart => exact ⟨(0), (y116), (y119), (.slice Ao27 y116.length co27), (.slice Ao26 y119.length co26), (by first | rfl | (simp; done) | (simp [*]; done)), H', ⟨Nat.le_refl _⟩, ⟨by (with_reducible repeat (first | apply Kd.S_alloc | apply Kd.S_drewN | apply Kd.S_drew)); exact Kd.S_mono (Kd.S_far (p := ⟨gb122, 2, none⟩) (Kd.S_far (p := ⟨gb122, 1, none⟩) (Kd.S_far (p := ⟨gb122, 0, none⟩) (Kd.S_types HO_8.out BK122.out (by decide)) (fun _ hk => hk.2) (.int .i64 ((rd_T44 l1 x9_1).f0.f0))) (fun _ hk => hk.2) (.slice Ao27 y116.length co27)) (fun _ hk => hk.2) (.slice Ao26 y119.length co26)) (fun _ hk => ⟨hk.1.1.2, hk.1.2⟩)⟩, ⟨by (with_reducible repeat (first | apply Kd.R_alloc | apply Kd.R_drewN | apply Kd.R_drew)); exact Kd.R_mono (Kd.R_far (p := ⟨gb122, 2, none⟩) (Kd.R_far (p := ⟨gb122, 1, none⟩) (Kd.R_far (p := ⟨gb122, 0, none⟩) (Kd.R_types HO118.out BK122.out (by decide)) (fun _ hk => hk.2) (.int .i64 ((rd_T44 l1 x9_1).f0.f0))) (fun _ hk => hk.2) (.slice Ao27 y116.length co27)) (fun _ hk => hk.2) (.slice Ao26 y119.length co26)) (fun _ hk => trivial)⟩, ⟨by (with_reducible repeat (first | apply Kd.R_alloc | apply Kd.R_drewN | apply Kd.R_drew)); exact Kd.R_mono (Kd.R_far (p := ⟨gb122, 2, none⟩) (Kd.R_far (p := ⟨gb122, 1, none⟩) (Kd.R_far (p := ⟨gb122, 0, none⟩) (Kd.R_types HO121.out BK122.out (by decide)) (fun _ hk => hk.2) (.int .i64 ((rd_T44 l1 x9_1).f0.f0))) (fun _ hk => hk.2) (.slice Ao27 y116.length co27)) (fun _ hk => hk.2) (.slice Ao26 y119.length co26)) (fun _ hk => trivial)⟩, ⟨by (with_reducible repeat (first | refine blk_drewN ?_ _ | refine blk_drew ?_ | refine blk_alloc ?_ _)); refine blk_far ?_ NB109_122.out _; (with_reducible repeat (first | refine blk_drewN ?_ _ | refine blk_drew ?_ | refine blk_alloc ?_ _)); refine blk_far ?_ NB109_122.out _; (with_reducible repeat (first | refine blk_drewN ?_ _ | refine blk_drew ?_ | refine blk_alloc ?_ _)); refine blk_far ?_ NB109_122.out _; (with_reducible repeat (first | refine blk_drewN ?_ _ | refine blk_drew ?_ | refine blk_alloc ?_ _)); exact BK109.out⟩, ⟨by (with_reducible repeat (first | refine blk_drewN ?_ _ | refine blk_drew ?_ | refine blk_alloc ?_ _)); refine blk_far ?_ NB110_122.out _; (with_reducible repeat (first | refine blk_drewN ?_ _ | refine blk_drew ?_ | refine blk_alloc ?_ _)); refine blk_far ?_ NB110_122.out _; (with_reducible repeat (first | refine blk_drewN ?_ _ | refine blk_drew ?_ | refine blk_alloc ?_ _)); refine blk_far ?_ NB110_122.out _; (with_reducible repeat (first | refine blk_drewN ?_ _ | refine blk_drew ?_ | refine blk_alloc ?_ _)); exact BK110.out⟩, ⟨by (with_reducible repeat (first | refine blk_drewN ?_ _ | refine blk_drew ?_ | refine blk_alloc ?_ _)); refine blk_far ?_ NB111_122.out _; (with_reducible repeat (first | refine blk_drewN ?_ _ | refine blk_drew ?_ | refine blk_alloc ?_ _)); refine blk_far ?_ NB111_122.out _; (with_reducible repeat (first | refine blk_drewN ?_ _ | refine blk_drew ?_ | refine blk_alloc ?_ _)); refine blk_far ?_ NB111_122.out _; (with_reducible repeat (first | refine blk_drewN ?_ _ | refine blk_drew ?_ | refine blk_alloc ?_ _)); exact BK111.out⟩, ⟨by (with_reducible repeat (first | refine blk_drewN ?_ _ | refine blk_drew ?_ | refine blk_alloc ?_ _)); refine blk_far ?_ NB112_122.out _; (with_reducible repeat (first | refine blk_drewN ?_ _ | refine blk_drew ?_ | refine blk_alloc ?_ _)); refine blk_far ?_ NB112_122.out _; (with_reducible repeat (first | refine blk_drewN ?_ _ | refine blk_drew ?_ | refine blk_alloc ?_ _)); refine blk_far ?_ NB112_122.out _; (with_reducible repeat (first | refine blk_drewN ?_ _ | refine blk_drew ?_ | refine blk_alloc ?_ _)); exact BK112.out⟩, ⟨by (with_reducible repeat (first | refine blk_drewN ?_ _ | refine blk_drew ?_ | refine blk_alloc ?_ _)); refine blk_put (cs := #[.int .i64 ((rd_T44 l1 x9_1).f0.f0), .slice Ao27 y116.length co27, .slice none 0 0]) ?_ 2 _ rfl; (with_reducible repeat (first | refine blk_drewN ?_ _ | refine blk_drew ?_ | refine blk_alloc ?_ _)); refine blk_put (cs := #[.int .i64 ((rd_T44 l1 x9_1).f0.f0), .slice none 0 0, .slice none 0 0]) ?_ 1 _ rfl; (with_reducible repeat (first | refine blk_drewN ?_ _ | refine blk_drew ?_ | refine blk_alloc ?_ _)); refine blk_put (cs := #[.int .i64 0, .slice none 0 0, .slice none 0 0]) ?_ 0 _ rfl; (with_reducible repeat (first | refine blk_drewN ?_ _ | refine blk_drew ?_ | refine blk_alloc ?_ _)); exact BK122.out⟩, ⟨by repeat (first | (with_reducible first | exact HB.out | apply below_alloc | apply pw_below_drewN | apply below_drew1 | refine below_set ?_ GE109.out | refine below_set ?_ GE110.out | refine below_set ?_ GE111.out | refine below_set ?_ GE112.out | refine below_set ?_ GE122.out) | exact HB.out)⟩⟩
        case round =>
         clear H'
         try clear c1
         try clear p1
         try clear q1
         try clear hx1
         try clear c2
         try clear p2
         try clear c3
         try clear p6
         try clear c9
         try clear c10
         try clear c11
         try clear p11
         try clear q11
         try clear hx11
         try clear c18
         try clear c18b0
         try clear c19
         try clear c20
         try clear c20b0
         try clear c21
         try clear c21b0
         try clear c25
         try clear c29
         try clear c30
         try clear c31
         try clear c32
         try clear hcz12_0
         try clear hcz12_1
         try clear hcz33_0
         try clear hcz33_1
         try clear hcz33_2
         try clear hfz12_0
         try clear hfz12_1
         try clear hfz33_0
         try clear hfz33_1
         try clear hfz33_2
         try clear hx115_0
         try clear hx115_1
         try clear hx115_2
         try clear hx115_3
         try clear p115
         try clear p2
         try clear p6
         try clear q115
         obtain ⟨x11_3, x123001_3, x123002_3, u123001, u123002, rfl, HA, HK3, HO_8, HO_123001, HO_123002, BK109, BK110, BK111, BK112, BK122, HB⟩ := hrel
         cases gk with
         | zero => exact absurd HA.out (by simp [gristmilllaw06_right.l1])
         | succ k3 =>
          have H := HA.out
          clear HA
          simp only [gristmilllaw06_right.l1] at H
          by_cases c34 : x11_3 < 2
          ·rw [if_pos c34] at H
           have c34b0 : decide (x11_3 < 2) = true := decide_eq_true c34
           clear c34
           have HC35 := Aside0.mk H
           clear H
           go_upto_region 11 with (fail)
           go_cut [67] (fun v67 wc => ∃ (kq : Nat) (x67_34 : Bool), v67 = .bool x67_34 ∧ Aside0 (gristmilllaw06_right.j3 kq l1 x8_1 x9_1 x11_3 x67_34 (wrap64 (1 + (Int.tmod t113 5))) (Int.tmod t114 2) 2 2 ((rd_T44 l1 x9_1).f0.f0) x123001_3 x123002_3 = some (r1, r2, r3, r4, r5)) ∧ Aside0 (kq ≤ k3) ∧ Aside0 (Kd.S k44 44 wc w.heap.size (fun k_ => some k_ ≠ (u123001 : Value).ownBlock ∧ some k_ ≠ (u123002 : Value).ownBlock) u8 x8_1) ∧ Aside0 (Kd.R Kd.string 9 wc w.heap.size (fun _ => True) u123001 x123001_3) ∧ Aside0 (Kd.R (Kd.int .i64) 2 wc w.heap.size (fun _ => True) u123002 x123002_3) ∧ Aside0 (wc.heap[gb109]? = some (.cells #[.int .i64 (wrap64 (1 + (Int.tmod t113 5))), .int .i64 (Int.tmod t114 2)] 23 (0, 0))) ∧ Aside0 (wc.heap[gb110]? = some (.cells #[.int .i64 0, .int .i64 0] 27 (0, 0))) ∧ Aside0 (wc.heap[gb111]? = some (.cells #[.int .i64 0, .int .i64 0] 23 (0, 0))) ∧ Aside0 (wc.heap[gb112]? = some (.cells #[.int .i64 2, .int .i64 2] 27 (0, 0))) ∧ Aside0 (wc.heap[gb122]? = some (.cells #[.int .i64 ((rd_T44 l1 x9_1).f0.f0), u123001, u123002] 42 (0, 0))) ∧ Aside0 (Below w.heap.size w wc))
           case first =>
            have H := HC35.out
            clear HC35
            by_cases c36 : 0 ≤ x9_1
            ·rw [if_pos c36] at H
             have c36b0 : decide (0 ≤ x9_1) = true := decide_eq_true c36
             clear c36
             (first | rw [c36b0] | (simp only [i64_w, i32_w]; rw [c36b0]) | skip)
             by_cases c37 : x9_1 < (l1.length : Int)
             ·rw [if_pos c37] at H
              have c37b0 : decide (x9_1 < (l1.length : Int)) = true := decide_eq_true c37
              clear c37
              by_cases c38 : x11_3 < (((rd_T44 l1 x9_1).f0.f1).length : Int)
              ·rw [if_pos c38] at H
               have c38b0 : decide (x11_3 < (((rd_T44 l1 x9_1).f0.f1).length : Int)) = true := decide_eq_true c38
               clear c38
               by_cases c39 : 0 ≤ x11_3
               ·rw [if_pos c39] at H
                have c39b0 : decide (0 ≤ x11_3) = true := decide_eq_true c39
                clear c39
                have H' := Aside0.mk H
                clear H
                have p127 : 0 ≤ (x9_1 : Int) := of_decide_eq_true (by assumption)
                have q127 : x9_1 < (l1.length : Int) := of_decide_eq_true (by assumption)
                obtain ⟨ad127, A127_1, c127_1, A127_2, c127_2, e127, hx127_0, hx127_1, hx127_2, hx127_3, hl127_1, hi127_1, hl127_2, hi127_2⟩ := at_T44 HR1.out x9_1 p127 q127
                obtain rfl : ad115 = ad127 := (by injection e127)
                replace hx127_0 := pw_cell_below HB.out hx127_0
                replace hx127_1 := pw_cell_below HB.out hx127_1
                replace hx127_2 := pw_cell_below HB.out hx127_2
                replace hx127_3 := pw_cell_below HB.out hx127_3
                have HR127_1 := Aside0.mk hi127_1
                have HC127_1 := Aside0.mk hl127_1
                clear hi127_1 hl127_1
                have HR127_2 := Aside0.mk hi127_2
                have HC127_2 := Aside0.mk hl127_2
                clear hi127_2 hl127_2
                replace p127 := eq_true p127
                replace q127 := eq_true q127
                have p128 : 0 ≤ (x9_1 : Int) := of_decide_eq_true (by assumption)
                have q128 : x9_1 < (l1.length : Int) := of_decide_eq_true (by assumption)
                obtain ⟨ad128, A128_1, c128_1, A128_2, c128_2, e128, hx128_0, hx128_1, hx128_2, hx128_3, hl128_1, hi128_1, hl128_2, hi128_2⟩ := at_T44 HR1.out x9_1 p128 q128
                obtain rfl : ad115 = ad128 := (by injection e128)
                replace hx128_0 := pw_cell_below HB.out hx128_0
                replace hx128_1 := pw_cell_below HB.out hx128_1
                replace hx128_2 := pw_cell_below HB.out hx128_2
                replace hx128_3 := pw_cell_below HB.out hx128_3
                have HR128_1 := Aside0.mk hi128_1
                have HC128_1 := Aside0.mk hl128_1
                clear hi128_1 hl128_1
                have HR128_2 := Aside0.mk hi128_2
                have HC128_2 := Aside0.mk hl128_2
                clear hi128_2 hl128_2
                replace p128 := eq_true p128
                replace q128 := eq_true q128
                have ea_ := Option.some.inj (hx127_1.symm.trans hx128_1)
                injection ea_ with ea_ en_ ec_
                subst ea_
                subst ec_
                clear en_
                have ea_ := Option.some.inj (hx127_2.symm.trans hx128_2)
                injection ea_ with ea_ en_ ec_
                subst ea_
                subst ec_
                clear en_
                have p129 : 0 ≤ (x11_3 : Int) := of_decide_eq_true (by assumption)
                have q129 : x11_3 < (((rd_T44 l1 x9_1).f0.f1).length : Int) := of_decide_eq_true (by assumption)
                obtain ⟨ad129, e129, hx129_0⟩ := Kd.at_string HR128_1.out x11_3 p129 q129
                cases e129
                replace hx129_0 := pw_cell_below HB.out hx129_0
                replace p129 := eq_true p129
                replace q129 := eq_true q129
                go_wp2
                go_meet
                case rel => exact ⟨_, (decide (((rdOf ByteArray.empty ((rd_T44 l1 x9_1).f0.f1) x11_3).size : Int) ≤ 64)), (by first | rfl | (simp; done) | (simp [*]; done)), H', ⟨by have := HK1.out; have := HJ16.out; have := HK3.out; first | omega | exact Nat.le_refl _⟩, ⟨by (with_reducible repeat (first | apply Kd.S_alloc | apply Kd.S_drewN | apply Kd.S_drew)); exact HO_8.out⟩, ⟨by (with_reducible repeat (first | apply Kd.R_alloc | apply Kd.R_drewN | apply Kd.R_drew)); exact HO_123001.out⟩, ⟨by (with_reducible repeat (first | apply Kd.R_alloc | apply Kd.R_drewN | apply Kd.R_drew)); exact HO_123002.out⟩, ⟨by (with_reducible repeat (first | refine blk_drewN ?_ _ | refine blk_drew ?_ | refine blk_alloc ?_ _)); exact BK109.out⟩, ⟨by (with_reducible repeat (first | refine blk_drewN ?_ _ | refine blk_drew ?_ | refine blk_alloc ?_ _)); exact BK110.out⟩, ⟨by (with_reducible repeat (first | refine blk_drewN ?_ _ | refine blk_drew ?_ | refine blk_alloc ?_ _)); exact BK111.out⟩, ⟨by (with_reducible repeat (first | refine blk_drewN ?_ _ | refine blk_drew ?_ | refine blk_alloc ?_ _)); exact BK112.out⟩, ⟨by (with_reducible repeat (first | refine blk_drewN ?_ _ | refine blk_drew ?_ | refine blk_alloc ?_ _)); exact BK122.out⟩, ⟨by repeat (first | (with_reducible first | exact HB.out | apply below_alloc | apply pw_below_drewN | apply below_drew1 | refine below_set ?_ GE109.out | refine below_set ?_ GE110.out | refine below_set ?_ GE111.out | refine below_set ?_ GE112.out | refine below_set ?_ GE122.out) | exact HB.out)⟩⟩
               ·rw [if_neg c39] at H
                exact absurd H (by simp)
              ·rw [if_neg c38] at H
               have c38b0 : decide (x11_3 < (((rd_T44 l1 x9_1).f0.f1).length : Int)) = false := decide_eq_false c38
               clear c38
               have H' := Aside0.mk H
               clear H
               have p127 : 0 ≤ (x9_1 : Int) := of_decide_eq_true (by assumption)
               have q127 : x9_1 < (l1.length : Int) := of_decide_eq_true (by assumption)
               obtain ⟨ad127, A127_1, c127_1, A127_2, c127_2, e127, hx127_0, hx127_1, hx127_2, hx127_3, hl127_1, hi127_1, hl127_2, hi127_2⟩ := at_T44 HR1.out x9_1 p127 q127
               obtain rfl : ad115 = ad127 := (by injection e127)
               replace hx127_0 := pw_cell_below HB.out hx127_0
               replace hx127_1 := pw_cell_below HB.out hx127_1
               replace hx127_2 := pw_cell_below HB.out hx127_2
               replace hx127_3 := pw_cell_below HB.out hx127_3
               have HR127_1 := Aside0.mk hi127_1
               have HC127_1 := Aside0.mk hl127_1
               clear hi127_1 hl127_1
               have HR127_2 := Aside0.mk hi127_2
               have HC127_2 := Aside0.mk hl127_2
               clear hi127_2 hl127_2
               replace p127 := eq_true p127
               replace q127 := eq_true q127
               go_wp2
               go_meet
               case rel => exact ⟨_, (false), (by first | rfl | (simp; done) | (simp [*]; done)), H', ⟨by have := HK1.out; have := HJ16.out; have := HK3.out; first | omega | exact Nat.le_refl _⟩, ⟨by (with_reducible repeat (first | apply Kd.S_alloc | apply Kd.S_drewN | apply Kd.S_drew)); exact HO_8.out⟩, ⟨by (with_reducible repeat (first | apply Kd.R_alloc | apply Kd.R_drewN | apply Kd.R_drew)); exact HO_123001.out⟩, ⟨by (with_reducible repeat (first | apply Kd.R_alloc | apply Kd.R_drewN | apply Kd.R_drew)); exact HO_123002.out⟩, ⟨by (with_reducible repeat (first | refine blk_drewN ?_ _ | refine blk_drew ?_ | refine blk_alloc ?_ _)); exact BK109.out⟩, ⟨by (with_reducible repeat (first | refine blk_drewN ?_ _ | refine blk_drew ?_ | refine blk_alloc ?_ _)); exact BK110.out⟩, ⟨by (with_reducible repeat (first | refine blk_drewN ?_ _ | refine blk_drew ?_ | refine blk_alloc ?_ _)); exact BK111.out⟩, ⟨by (with_reducible repeat (first | refine blk_drewN ?_ _ | refine blk_drew ?_ | refine blk_alloc ?_ _)); exact BK112.out⟩, ⟨by (with_reducible repeat (first | refine blk_drewN ?_ _ | refine blk_drew ?_ | refine blk_alloc ?_ _)); exact BK122.out⟩, ⟨by repeat (first | (with_reducible first | exact HB.out | apply below_alloc | apply pw_below_drewN | apply below_drew1 | refine below_set ?_ GE109.out | refine below_set ?_ GE110.out | refine below_set ?_ GE111.out | refine below_set ?_ GE112.out | refine below_set ?_ GE122.out) | exact HB.out)⟩⟩
             ·rw [if_neg c37] at H
              exact absurd H (by simp)
            ·rw [if_neg c36] at H
             exact absurd H (by simp)
           case rest =>
            clear HC35
            try clear c1
            try clear p1
            try clear q1
            try clear hx1
            try clear c2
            try clear p2
            try clear c3
            try clear p6
            try clear c9
            try clear c10
            try clear c11
            try clear p11
            try clear q11
            try clear hx11
            try clear c12
            try clear p12
            try clear q12
            try clear hx12
            try clear c18
            try clear c18b0
            try clear c19
            try clear c20
            try clear c20b0
            try clear c21
            try clear c21b0
            try clear c25
            try clear c29
            try clear c30
            try clear c31
            try clear c32
            try clear c34
            try clear c34b0
            try clear c36
            try clear c36b0
            try clear c37
            try clear c37b0
            try clear c38
            try clear c38b0
            try clear c39
            try clear c39b0
            try clear hcz12_0
            try clear hcz12_1
            try clear hcz33_0
            try clear hcz33_1
            try clear hcz33_2
            try clear hfz12_0
            try clear hfz12_1
            try clear hfz33_0
            try clear hfz33_1
            try clear hfz33_2
            try clear hx115_0
            try clear hx115_1
            try clear hx115_2
            try clear hx115_3
            try clear hx127_0
            try clear hx127_1
            try clear hx127_2
            try clear hx127_3
            try clear hx128_0
            try clear hx128_1
            try clear hx128_2
            try clear hx128_3
            try clear hx129_0
            try clear p1
            try clear p11
            try clear p115
            try clear p127
            try clear p128
            try clear p129
            try clear p2
            try clear p6
            try clear q1
            try clear q11
            try clear q115
            try clear q127
            try clear q128
            try clear q129
            obtain ⟨kq, x67_34, rfl, HA, HJ34, HO_8, HO_123001, HO_123002, BK109, BK110, BK111, BK112, BK122, HB⟩ := hcut
            cases kq with
            | zero => exact absurd HA.out (by simp [gristmilllaw06_right.j3])
            | succ kj34 =>
             have H := HA.out
             clear HA
             simp only [gristmilllaw06_right.j3] at H
             by_cases c40 : x67_34 = true
             ·subst c40
              have H1 : (if 0 ≤ x9_1 then (if x9_1 < (l1.length : Int) then (if 0 ≤ x11_3 then (if x11_3 < (((rd_T44 l1 x9_1).f0.f1).length : Int) then (if x11_3 < (x123001_3.length : Int) then ((some (x123001_3.set (x11_3 : Int).toNat (rdOf ByteArray.empty ((rd_T44 l1 x9_1).f0.f1) x11_3) : List ByteArray)).bind fun y132 => (if x11_3 < (((rd_T44 l1 x9_1).f0.f2).length : Int) then (if x11_3 < (x123002_3.length : Int) then (gristmilllaw06_right.l1 kj34 l1 x8_1 x9_1 (wrap64 (x11_3 + 1)) (wrap64 (1 + (Int.tmod t113 5))) (Int.tmod t114 2) 2 2 ((rd_T44 l1 x9_1).f0.f0) y132 (x123002_3.set (x11_3 : Int).toNat (rd ((rd_T44 l1 x9_1).f0.f2) x11_3))) else (none)) else (gristmilllaw06_right.l1 kj34 l1 x8_1 x9_1 (wrap64 (x11_3 + 1)) (wrap64 (1 + (Int.tmod t113 5))) (Int.tmod t114 2) 2 2 ((rd_T44 l1 x9_1).f0.f0) y132 x123002_3))) else (none)) else (none)) else (none)) else (none)) else (none)) = some (r1, r2, r3, r4, r5) := by rw [if_pos rfl] at H; exact H
              clear H
              have H := H1
              clear H1
              by_cases c41 : 0 ≤ x9_1
              ·rw [if_pos c41] at H
               have c41b0 : decide (0 ≤ x9_1) = true := decide_eq_true c41
               clear c41
               by_cases c42 : x9_1 < (l1.length : Int)
               ·rw [if_pos c42] at H
                have c42b0 : decide (x9_1 < (l1.length : Int)) = true := decide_eq_true c42
                clear c42
                by_cases c43 : 0 ≤ x11_3
                ·rw [if_pos c43] at H
                 have c43b0 : decide (0 ≤ x11_3) = true := decide_eq_true c43
                 clear c43
                 by_cases c44 : x11_3 < (((rd_T44 l1 x9_1).f0.f1).length : Int)
                 ·rw [if_pos c44] at H
                  have c44b0 : decide (x11_3 < (((rd_T44 l1 x9_1).f0.f1).length : Int)) = true := decide_eq_true c44
                  clear c44
                  by_cases c45 : x11_3 < (x123001_3.length : Int)
                  ·rw [if_pos c45] at H
                   have c45b0 : decide (x11_3 < (x123001_3.length : Int)) = true := decide_eq_true c45
                   clear c45
                   obtain ⟨y132, hy132⟩ : ∃ y_ : List ByteArray, y_ = (x123001_3.set (x11_3 : Int).toNat (rdOf ByteArray.empty ((rd_T44 l1 x9_1).f0.f1) x11_3)) := ⟨_, rfl⟩
                   replace H : (if x11_3 < (((rd_T44 l1 x9_1).f0.f2).length : Int) then (if x11_3 < (x123002_3.length : Int) then (gristmilllaw06_right.l1 kj34 l1 x8_1 x9_1 (wrap64 (x11_3 + 1)) (wrap64 (1 + (Int.tmod t113 5))) (Int.tmod t114 2) 2 2 ((rd_T44 l1 x9_1).f0.f0) y132 (x123002_3.set (x11_3 : Int).toNat (rd ((rd_T44 l1 x9_1).f0.f2) x11_3))) else (none)) else (gristmilllaw06_right.l1 kj34 l1 x8_1 x9_1 (wrap64 (x11_3 + 1)) (wrap64 (1 + (Int.tmod t113 5))) (Int.tmod t114 2) 2 2 ((rd_T44 l1 x9_1).f0.f0) y132 x123002_3)) = some (r1, r2, r3, r4, r5) := by first | (rw [hy132]; with_reducible exact H) | (have H2_ := (Option.bind_some _ _).symm.trans H; rw [hy132]; with_reducible exact H2_) | (have H2_ := (Option.bind_some _ _).symm.trans H; with_reducible exact H2_) | with_reducible exact H | (rw [hy132]; exact H) | exact H
                   have Ny132 := Aside0.mk hy132
                   clear hy132
                   by_cases c47 : x11_3 < (((rd_T44 l1 x9_1).f0.f2).length : Int)
                   ·rw [if_pos c47] at H
                    have c47b0 : decide (x11_3 < (((rd_T44 l1 x9_1).f0.f2).length : Int)) = true := decide_eq_true c47
                    clear c47
                    by_cases c48 : x11_3 < (x123002_3.length : Int)
                    ·rw [if_pos c48] at H
                     have c48b0 : decide (x11_3 < (x123002_3.length : Int)) = true := decide_eq_true c48
                     clear c48
                     obtain ⟨y136, hy136⟩ : ∃ y_ : List Int, y_ = (x123002_3.set (x11_3 : Int).toNat (rd ((rd_T44 l1 x9_1).f0.f2) x11_3)) := ⟨_, rfl⟩
                     replace H : (gristmilllaw06_right.l1 kj34 l1 x8_1 x9_1 (wrap64 (x11_3 + 1)) (wrap64 (1 + (Int.tmod t113 5))) (Int.tmod t114 2) 2 2 ((rd_T44 l1 x9_1).f0.f0) y132 y136) = some (r1, r2, r3, r4, r5) := by first | (rw [hy136]; with_reducible exact H) | (have H2_ := (Option.bind_some _ _).symm.trans H; rw [hy136]; with_reducible exact H2_) | (have H2_ := (Option.bind_some _ _).symm.trans H; with_reducible exact H2_) | with_reducible exact H | (rw [hy136]; exact H) | exact H
                     have Ny136 := Aside0.mk hy136
                     clear hy136
                     have H' := Aside0.mk H
                     clear H
                     try go_wp2
                     have n0_ := Aside0.mk (Kd.S_drew HO_8.out)
                     have n1_ := Aside0.mk (Kd.R_drew HO_123001.out)
                     have n2_ := Aside0.mk (Kd.R_drew HO_123002.out)
                     have n3_ := Aside0.mk (blk_drew BK109.out)
                     have n4_ := Aside0.mk (blk_drew BK110.out)
                     have n5_ := Aside0.mk (blk_drew BK111.out)
                     have n6_ := Aside0.mk (blk_drew BK112.out)
                     have n7_ := Aside0.mk (blk_drew BK122.out)
                     have n8_ := Aside0.mk (below_drew1 HB.out)
                     clear HO_8
                     clear HO_123001
                     clear HO_123002
                     clear BK109
                     clear BK110
                     clear BK111
                     clear BK112
                     clear BK122
                     clear HB
                     have HO_8 := n0_
                     have HO_123001 := n1_
                     have HO_123002 := n2_
                     have BK109 := n3_
                     have BK110 := n4_
                     have BK111 := n5_
                     have BK112 := n6_
                     have BK122 := n7_
                     have HB := n8_
                     clear n0_ n1_ n2_ n3_ n4_ n5_ n6_ n7_ n8_
                     have p130 : 0 ≤ (x9_1 : Int) := of_decide_eq_true (by assumption)
                     have q130 : x9_1 < (l1.length : Int) := of_decide_eq_true (by assumption)
                     obtain ⟨ad130, A130_1, c130_1, A130_2, c130_2, e130, hx130_0, hx130_1, hx130_2, hx130_3, hl130_1, hi130_1, hl130_2, hi130_2⟩ := at_T44 HR1.out x9_1 p130 q130
                     have hw130_3 := hx130_3
                     have hw130_2 := hx130_2
                     have hw130_1 := hx130_1
                     have hw130_0 := hx130_0
                     obtain rfl : ad115 = ad130 := (by injection e130)
                     replace hx130_0 := pw_cell_below HB.out hx130_0
                     replace hx130_1 := pw_cell_below HB.out hx130_1
                     replace hx130_2 := pw_cell_below HB.out hx130_2
                     replace hx130_3 := pw_cell_below HB.out hx130_3
                     have HR130_1 := Aside0.mk hi130_1
                     have HC130_1 := Aside0.mk hl130_1
                     clear hi130_1 hl130_1
                     have HR130_2 := Aside0.mk hi130_2
                     have HC130_2 := Aside0.mk hl130_2
                     clear hi130_2 hl130_2
                     replace p130 := eq_true p130
                     replace q130 := eq_true q130
                     have p131 : 0 ≤ (x11_3 : Int) := of_decide_eq_true (by assumption)
                     have q131 : x11_3 < (((rd_T44 l1 x9_1).f0.f1).length : Int) := of_decide_eq_true (by assumption)
                     obtain ⟨ad131, e131, hx131_0⟩ := Kd.at_string HR130_1.out x11_3 p131 q131
                     have hw131_0 := hx131_0
                     cases e131
                     replace hx131_0 := pw_cell_below HB.out hx131_0
                     replace p131 := eq_true p131
                     replace q131 := eq_true q131
                     have p46 : 0 ≤ (x11_3 : Int) := of_decide_eq_true (by assumption)
                     have q46 : (x11_3 : Int) < ((x123001_3.length : Int) : Int) := of_decide_eq_true (by assumption)
                     obtain ⟨go46, co46, eo46, gb46, gl46, cl46, HG46⟩ := Kd.R_form HO_123001.out (by omega)
                     (first | cases eo46 | (injection eo46 with ea_ en_ ec_; (first | subst ea_ | (injection ea_ with ea_; subst ea_)); subst ec_; clear en_))
                     have GB46 := Aside0.mk gb46
                     have GG46 := Aside0.mk HG46
                     clear gb46 gl46 HG46
                     obtain ⟨hx46_0, hf46_0⟩ := Kd.R_celln (⟨#[]⟩ : ByteArray) HO_123001.out (x11_3 : Int) p46 q46
                     replace p46 := eq_true p46
                     replace q46 := eq_true q46
                     have HP51 := Kd.R_putn HO_123001.out (x11_3 : Int) (rdOf ByteArray.empty ((rd_T44 l1 x9_1).f0.f1) x11_3)
                     rw [← Ny132.out] at HP51
                     have HQ51 := Aside0.mk HP51
                     clear HP51
                     refine start_ (n := 14) (S := fun w' => w'.cell? ⟨gb122, 0, none⟩ = some (.int .i64 ((rd_T44 l1 x9_1).f0.f0)) ∧ w'.cell? ⟨gb122, 1, none⟩ = some (.slice (some ⟨go46, 0, none⟩) x123001_3.length co46) ∧ w'.cell? ⟨gb122, 2, none⟩ = some (u123002) ∧ w'.cell? (ad115.add ((x9_1).toNat * 4)) = some (.int .i64 ((rd_T44 l1 x9_1).f0.f0)) ∧ w'.cell? ⟨(ad115.add ((x9_1).toNat * 4)).block, (ad115.add ((x9_1).toNat * 4)).off + 1, none⟩ = some (.slice (some ad131) ((rd_T44 l1 x9_1).f0.f1).length c130_1) ∧ w'.cell? ⟨(ad115.add ((x9_1).toNat * 4)).block, (ad115.add ((x9_1).toNat * 4)).off + 2, none⟩ = some (.slice A130_2 ((rd_T44 l1 x9_1).f0.f2).length c130_2) ∧ w'.cell? ⟨(ad115.add ((x9_1).toNat * 4)).block, (ad115.add ((x9_1).toNat * 4)).off + 3, none⟩ = some (.int .u64 ((rd_T44 l1 x9_1).f1)) ∧ w'.cell? (ad131.add (x11_3).toNat) = some (.string (rdOf ByteArray.empty ((rd_T44 l1 x9_1).f0.f1) x11_3))) (ds := [13]) #[false, false, false, false, false, false, false, false, false, false, false, false, false, false] (by kernel_rfl) rfl rfl ⟨(blk_cell BK122.out 0).trans rfl, (blk_cell BK122.out 1).trans rfl, (blk_cell BK122.out 2).trans rfl, (pw_cell_below HB.out hw130_0), (pw_cell_below HB.out hw130_1), (pw_cell_below HB.out hw130_2), (pw_cell_below HB.out hw130_3), (pw_cell_below HB.out hw131_0)⟩ (fun hHeld => ?_); refine with_tabW gristmilllaw06_right.tab12 gristmilllaw06_right.bits12 (fun HT_ HW_ => ?_)
                     generalize wc.drew = w50 at HO_8 HO_123001 HO_123002 BK109 BK110 BK111 BK112 BK122 HB GG46 HQ51 HR130_1 HR130_2 hf46_0 hx130_0 hx130_1 hx130_2 hx130_3 hx131_0 hx46_0 hHeld ⊢
                     refine pure_ (i := 0) (N := some 68) (v := ?_) (a' := ?_) #[true, false, false, false, false, false, false, false, false, false, false, false, false, false] rfl rfl (any_of HT_.out (by kernel_rfl)) (fun _ _ _ h => h) (Or.inl ⟨by rfl, ?_⟩) ?_ ?_
                     rotate_left
                     ·intro w'
                      go_simp
                      with_reducible rfl
                     rotate_left
                     ·simp only [Act.put, q1_, q2_, q3_, i64_w, i32_w]
                      rfl
                     refine pure_ (i := 2) (N := some 70) (v := ?_) (a' := ?_) #[true, false, true, false, false, false, false, false, false, false, false, false, false, false] rfl rfl (any_of HT_.out (by kernel_rfl)) (fun _ _ _ h => h) (Or.inl ⟨by rfl, ?_⟩) ?_ ?_
                     rotate_left
                     ·intro w'
                      go_simp
                      with_reducible rfl
                     rotate_left
                     ·simp only [Act.put, q1_, q2_, q3_, i64_w, i32_w]
                      rfl
                     refine pure_ (i := 3) (N := some 71) (v := ?_) (a' := ?_) #[true, false, true, true, false, false, false, false, false, false, false, false, false, false] rfl rfl (any_of HT_.out (by kernel_rfl)) (fun _ _ _ h => h) (Or.inl ⟨by rfl, ?_⟩) ?_ ?_
                     rotate_left
                     ·intro w'
                      go_simp
                      with_reducible rfl
                     rotate_left
                     ·simp only [Act.put, q1_, q2_, q3_, i64_w, i32_w]
                      rfl
                     refine pure_ (i := 4) (N := some 72) (v := ?_) (a' := ?_) #[true, false, true, true, true, false, false, false, false, false, false, false, false, false] rfl rfl (any_of HT_.out (by kernel_rfl)) (fun _ _ _ h => h) (Or.inl ⟨by rfl, ?_⟩) ?_ ?_
                     rotate_left
                     ·intro w'
                      go_simp
                      with_reducible rfl
                     rotate_left
                     ·simp only [Act.put, q1_, q2_, q3_, i64_w, i32_w]
                      rfl
                     refine pure_ (i := 5) (N := some 73) (v := ?_) (a' := ?_) #[true, false, true, true, true, true, false, false, false, false, false, false, false, false] rfl rfl (any_of HT_.out (by kernel_rfl)) (fun _ _ _ h => h) (Or.inl ⟨by rfl, ?_⟩) ?_ ?_
                     rotate_left
                     ·intro w'
                      go_simp
                      with_reducible rfl
                     rotate_left
                     ·simp only [Act.put, q1_, q2_, q3_, i64_w, i32_w]
                      rfl
                     refine pure_ (i := 6) (N := some 74) (v := ?_) (a' := ?_) #[true, false, true, true, true, true, true, false, false, false, false, false, false, false] rfl rfl (any_of HT_.out (by kernel_rfl)) (fun _ _ _ h => h) (Or.inl ⟨by rfl, ?_⟩) ?_ ?_
                     rotate_left
                     ·intro w'
                      go_simp
                      with_reducible rfl
                     rotate_left
                     ·simp only [Act.put, q1_, q2_, q3_, i64_w, i32_w]
                      rfl
                     refine pure_ (i := 7) (N := some 75) (v := ?_) (a' := ?_) #[true, false, true, true, true, true, true, true, false, false, false, false, false, false] rfl rfl (any_of HT_.out (by kernel_rfl)) (fun _ _ _ h => h) (Or.inl ⟨by rfl, ?_⟩) ?_ ?_
                     rotate_left
                     ·intro w'
                      go_simp
                      with_reducible rfl
                     rotate_left
                     ·simp only [Act.put, q1_, q2_, q3_, i64_w, i32_w]
                      rfl
                     refine pure_ (i := 9) (N := some 77) (v := ?_) (a' := ?_) #[true, false, true, true, true, true, true, true, false, true, false, false, false, false] rfl rfl (any_of HT_.out (by kernel_rfl)) (fun _ _ _ h => h) (Or.inl ⟨by rfl, ?_⟩) ?_ ?_
                     rotate_left
                     ·intro w'
                      go_simp
                      with_reducible rfl
                     rotate_left
                     ·simp only [Act.put, q1_, q2_, q3_, i64_w, i32_w]
                      rfl
                     refine take_ (i := 1) (N := some 69) (v := ?_) (a' := ?_) #[true, true, true, true, true, true, true, true, false, true, false, false, false, false] rfl rfl (take_ofW HT_.out HW_.out (by kernel_rfl)) (fun _ _ _ h => h) (Or.inl ⟨by rfl, ?_⟩) hHeld ?_ ?_
                     rotate_left
                     ·rintro w' ⟨s0, s1, s2, s3, s4, s5, s6, s7⟩
                      go_simp
                      with_reducible rfl
                     rotate_left
                     ·simp only [Act.put, q1_, q2_, q3_, i64_w, i32_w]
                      rfl
                     refine take_ (i := 8) (N := some 76) (v := ?_) (a' := ?_) #[true, true, true, true, true, true, true, true, true, true, false, false, false, false] rfl rfl (take_ofW HT_.out HW_.out (by kernel_rfl)) (fun _ _ _ h => h) (Or.inl ⟨by rfl, ?_⟩) hHeld ?_ ?_
                     rotate_left
                     ·rintro w' ⟨s0, s1, s2, s3, s4, s5, s6, s7⟩
                      go_simp
                      with_reducible rfl
                     rotate_left
                     ·simp only [Act.put, q1_, q2_, q3_, i64_w, i32_w]
                      rfl
                     refine pure_ (i := 10) (N := some 78) (v := ?_) (a' := ?_) #[true, true, true, true, true, true, true, true, true, true, true, false, false, false] rfl rfl (any_of HT_.out (by kernel_rfl)) (fun _ _ _ h => h) (Or.inl ⟨by rfl, ?_⟩) ?_ ?_
                     rotate_left
                     ·intro w'
                      go_simp
                      with_reducible rfl
                     rotate_left
                     ·simp only [Act.put, q1_, q2_, q3_, i64_w, i32_w]
                      rfl
                     refine take_ (i := 11) (N := some 79) (v := ?_) (a' := ?_) #[true, true, true, true, true, true, true, true, true, true, true, true, false, false] rfl rfl (take_ofW HT_.out HW_.out (by kernel_rfl)) (fun _ _ _ h => h) (Or.inl ⟨by rfl, ?_⟩) hHeld ?_ ?_
                     rotate_left
                     ·rintro w' ⟨s0, s1, s2, s3, s4, s5, s6, s7⟩
                      go_simp
                      with_reducible rfl
                     rotate_left
                     ·simp only [Act.put, q1_, q2_, q3_, i64_w, i32_w]
                      rfl
                     refine pure_ (i := 12) (N := some 80) (v := ?_) (a' := ?_) #[true, true, true, true, true, true, true, true, true, true, true, true, true, false] rfl rfl (any_of HT_.out (by kernel_rfl)) (fun _ _ _ h => h) (Or.inl ⟨by rfl, ?_⟩) ?_ ?_
                     rotate_left
                     ·intro w'
                      go_simp
                      with_reducible rfl
                     rotate_left
                     ·simp only [Act.put, q1_, q2_, q3_, i64_w, i32_w]
                      rfl
                     refine last_ (i := 13) (N := none) #[true, true, true, true, true, true, true, true, true, true, true, true, true, true] rfl rfl (one_of HT_.out (by kernel_rfl)) (by decide) (fun K hK => ?_)
                     refine skip_ (w1 := ?_) (by rfl) rfl ?_ ?_
                     rotate_left
                     ·go_simp
                      rfl
                     refine hK.out _ _ ?_
                     clear hK K
                     refine done_ (done_of HT_.out (by kernel_rfl)) ?_
                     have p133 : 0 ≤ (x9_1 : Int) := of_decide_eq_true (by assumption)
                     have q133 : x9_1 < (l1.length : Int) := of_decide_eq_true (by assumption)
                     obtain ⟨ad133, A133_1, c133_1, A133_2, c133_2, e133, hx133_0, hx133_1, hx133_2, hx133_3, hl133_1, hi133_1, hl133_2, hi133_2⟩ := at_T44 HR1.out x9_1 p133 q133
                     obtain rfl : ad115 = ad133 := (by injection e133)
                     have hn133_0 : ad115.block ≠ go46 := Nat.ne_of_lt (Nat.lt_of_lt_of_le (by have := World.block_lt_of_cell? _ _ hx133_0; first | rwa [add_block] at this | exact this) GB46.out)
                     replace hx133_0 := pw_cell_below HB.out hx133_0
                     replace hx133_1 := pw_cell_below HB.out hx133_1
                     replace hx133_2 := pw_cell_below HB.out hx133_2
                     replace hx133_3 := pw_cell_below HB.out hx133_3
                     have HR133_1 := Aside0.mk hi133_1
                     have HC133_1 := Aside0.mk hl133_1
                     clear hi133_1 hl133_1
                     have HR133_2 := Aside0.mk hi133_2
                     have HC133_2 := Aside0.mk hl133_2
                     clear hi133_2 hl133_2
                     replace hx133_0 := (cell_far (p := ⟨go46, (x11_3 : Int).toNat, none⟩) (by first | (rw [add_block]; exact hn133_0) | (show (Addr.add _ _).block ≠ _; rw [add_block]; exact hn133_0) | exact hn133_0) (.string (rdOf ByteArray.empty ((rd_T44 l1 x9_1).f0.f1) x11_3))).trans hx133_0
                     replace hx133_1 := (cell_far (p := ⟨go46, (x11_3 : Int).toNat, none⟩) (by first | (rw [add_block]; exact hn133_0) | (show (Addr.add _ _).block ≠ _; rw [add_block]; exact hn133_0) | exact hn133_0) (.string (rdOf ByteArray.empty ((rd_T44 l1 x9_1).f0.f1) x11_3))).trans hx133_1
                     replace hx133_2 := (cell_far (p := ⟨go46, (x11_3 : Int).toNat, none⟩) (by first | (rw [add_block]; exact hn133_0) | (show (Addr.add _ _).block ≠ _; rw [add_block]; exact hn133_0) | exact hn133_0) (.string (rdOf ByteArray.empty ((rd_T44 l1 x9_1).f0.f1) x11_3))).trans hx133_2
                     replace hx133_3 := (cell_far (p := ⟨go46, (x11_3 : Int).toNat, none⟩) (by first | (rw [add_block]; exact hn133_0) | (show (Addr.add _ _).block ≠ _; rw [add_block]; exact hn133_0) | exact hn133_0) (.string (rdOf ByteArray.empty ((rd_T44 l1 x9_1).f0.f1) x11_3))).trans hx133_3
                     clear hn133_0
                     replace p133 := eq_true p133
                     replace q133 := eq_true q133
                     try go_wp2
                     have n0_ : Aside0 (Kd.S k44 44 (w50.setCell ⟨go46, (x11_3 : Int).toNat, none⟩ (.string (rdOf ByteArray.empty ((rd_T44 l1 x9_1).f0.f1) x11_3))) w.heap.size (fun k_ => some k_ ≠ (.slice (some ⟨go46, 0, none⟩) x123001_3.length co46 : Value).ownBlock ∧ some k_ ≠ (u123002 : Value).ownBlock) u8 x8_1) := ⟨by (with_reducible repeat (first | apply Kd.S_alloc | apply Kd.S_drewN | apply Kd.S_drew)); exact Kd.S_mono (Kd.S_far (p := ⟨go46, (x11_3 : Int).toNat, none⟩) (Kd.S_mono HO_8.out (fun k_ hk => (⟨hk, fun e_ => hk.1 (by rw [e_]; rfl)⟩ : _ ∧ k_ ≠ go46))) (fun _ hk => hk.2) (.string (rdOf ByteArray.empty ((rd_T44 l1 x9_1).f0.f1) x11_3))) (fun _ hk => ⟨hk.1.1, hk.1.2⟩)⟩
                     have n1_ : Aside0 (Kd.R Kd.string 9 (w50.setCell ⟨go46, (x11_3 : Int).toNat, none⟩ (.string (rdOf ByteArray.empty ((rd_T44 l1 x9_1).f0.f1) x11_3))) w.heap.size (fun _ => True) (.slice (some ⟨go46, 0, none⟩) x123001_3.length co46) y132) := ⟨by (with_reducible repeat (first | apply Kd.R_alloc | apply Kd.R_drewN | apply Kd.R_drew)); exact HQ51.out⟩
                     have n2_ : Aside0 (Kd.R (Kd.int .i64) 2 (w50.setCell ⟨go46, (x11_3 : Int).toNat, none⟩ (.string (rdOf ByteArray.empty ((rd_T44 l1 x9_1).f0.f1) x11_3))) w.heap.size (fun _ => True) u123002 x123002_3) := ⟨by (with_reducible repeat (first | apply Kd.R_alloc | apply Kd.R_drewN | apply Kd.R_drew)); exact Kd.R_mono (Kd.R_far (p := ⟨go46, (x11_3 : Int).toNat, none⟩) (Kd.R_types HO_123002.out GG46.out (by decide)) (fun _ hk => hk.2) (.string (rdOf ByteArray.empty ((rd_T44 l1 x9_1).f0.f1) x11_3))) (fun _ hk => trivial)⟩
                     have n3_ : Aside0 ((w50.setCell ⟨go46, (x11_3 : Int).toNat, none⟩ (.string (rdOf ByteArray.empty ((rd_T44 l1 x9_1).f0.f1) x11_3))).heap[gb109]? = some (.cells #[.int .i64 (wrap64 (1 + (Int.tmod t113 5))), .int .i64 (Int.tmod t114 2)] 23 (0, 0))) := ⟨by (with_reducible repeat (first | refine blk_drewN ?_ _ | refine blk_drew ?_ | refine blk_alloc ?_ _)); refine blk_far ?_ (by have h_ := Kd.R_ne HO_123001.out BK109.out (by decide); intro e_; exact h_ (by rw [e_]; rfl)) _; (with_reducible repeat (first | refine blk_drewN ?_ _ | refine blk_drew ?_ | refine blk_alloc ?_ _)); exact BK109.out⟩
                     have n4_ : Aside0 ((w50.setCell ⟨go46, (x11_3 : Int).toNat, none⟩ (.string (rdOf ByteArray.empty ((rd_T44 l1 x9_1).f0.f1) x11_3))).heap[gb110]? = some (.cells #[.int .i64 0, .int .i64 0] 27 (0, 0))) := ⟨by (with_reducible repeat (first | refine blk_drewN ?_ _ | refine blk_drew ?_ | refine blk_alloc ?_ _)); refine blk_far ?_ (by have h_ := Kd.R_ne HO_123001.out BK110.out (by decide); intro e_; exact h_ (by rw [e_]; rfl)) _; (with_reducible repeat (first | refine blk_drewN ?_ _ | refine blk_drew ?_ | refine blk_alloc ?_ _)); exact BK110.out⟩
                     have n5_ : Aside0 ((w50.setCell ⟨go46, (x11_3 : Int).toNat, none⟩ (.string (rdOf ByteArray.empty ((rd_T44 l1 x9_1).f0.f1) x11_3))).heap[gb111]? = some (.cells #[.int .i64 0, .int .i64 0] 23 (0, 0))) := ⟨by (with_reducible repeat (first | refine blk_drewN ?_ _ | refine blk_drew ?_ | refine blk_alloc ?_ _)); refine blk_far ?_ (by have h_ := Kd.R_ne HO_123001.out BK111.out (by decide); intro e_; exact h_ (by rw [e_]; rfl)) _; (with_reducible repeat (first | refine blk_drewN ?_ _ | refine blk_drew ?_ | refine blk_alloc ?_ _)); exact BK111.out⟩
                     have n6_ : Aside0 ((w50.setCell ⟨go46, (x11_3 : Int).toNat, none⟩ (.string (rdOf ByteArray.empty ((rd_T44 l1 x9_1).f0.f1) x11_3))).heap[gb112]? = some (.cells #[.int .i64 2, .int .i64 2] 27 (0, 0))) := ⟨by (with_reducible repeat (first | refine blk_drewN ?_ _ | refine blk_drew ?_ | refine blk_alloc ?_ _)); refine blk_far ?_ (by have h_ := Kd.R_ne HO_123001.out BK112.out (by decide); intro e_; exact h_ (by rw [e_]; rfl)) _; (with_reducible repeat (first | refine blk_drewN ?_ _ | refine blk_drew ?_ | refine blk_alloc ?_ _)); exact BK112.out⟩
                     have n7_ : Aside0 ((w50.setCell ⟨go46, (x11_3 : Int).toNat, none⟩ (.string (rdOf ByteArray.empty ((rd_T44 l1 x9_1).f0.f1) x11_3))).heap[gb122]? = some (.cells #[.int .i64 ((rd_T44 l1 x9_1).f0.f0), .slice (some ⟨go46, 0, none⟩) x123001_3.length co46, u123002] 42 (0, 0))) := ⟨by (with_reducible repeat (first | refine blk_drewN ?_ _ | refine blk_drew ?_ | refine blk_alloc ?_ _)); refine blk_far ?_ (by have h_ := Kd.R_ne HO_123001.out BK122.out (by decide); intro e_; exact h_ (by rw [e_]; rfl)) _; (with_reducible repeat (first | refine blk_drewN ?_ _ | refine blk_drew ?_ | refine blk_alloc ?_ _)); exact BK122.out⟩
                     have n8_ : Aside0 (Below w.heap.size w (w50.setCell ⟨go46, (x11_3 : Int).toNat, none⟩ (.string (rdOf ByteArray.empty ((rd_T44 l1 x9_1).f0.f1) x11_3)))) := ⟨by repeat (first | (with_reducible first | exact HB.out | apply below_alloc | apply pw_below_drewN | apply below_drew1 | refine below_set ?_ GB46.out | refine below_set ?_ GE109.out | refine below_set ?_ GE110.out | refine below_set ?_ GE111.out | refine below_set ?_ GE112.out | refine below_set ?_ GE122.out) | exact HB.out)⟩
                     (try clear HO_8)
                     (try clear HO_123001)
                     (try clear HO_123002)
                     (try clear BK109)
                     (try clear BK110)
                     (try clear BK111)
                     (try clear BK112)
                     (try clear BK122)
                     (try clear HB)
                     generalize (w50.setCell ⟨go46, (x11_3 : Int).toNat, none⟩ (.string (rdOf ByteArray.empty ((rd_T44 l1 x9_1).f0.f1) x11_3))) = w52 at n0_ n1_ n2_ n3_ n4_ n5_ n6_ n7_ n8_ ⊢
                     have HO_8 := n0_
                     have HO_123001 := n1_
                     have HO_123002 := n2_
                     have BK109 := n3_
                     have BK110 := n4_
                     have BK111 := n5_
                     have BK112 := n6_
                     have BK122 := n7_
                     have HB := n8_
                     clear n0_ n1_ n2_ n3_ n4_ n5_ n6_ n7_ n8_
                     have n0_ := Aside0.mk (Kd.S_drew HO_8.out)
                     have n1_ := Aside0.mk (Kd.R_drew HO_123001.out)
                     have n2_ := Aside0.mk (Kd.R_drew HO_123002.out)
                     have n3_ := Aside0.mk (blk_drew BK109.out)
                     have n4_ := Aside0.mk (blk_drew BK110.out)
                     have n5_ := Aside0.mk (blk_drew BK111.out)
                     have n6_ := Aside0.mk (blk_drew BK112.out)
                     have n7_ := Aside0.mk (blk_drew BK122.out)
                     have n8_ := Aside0.mk (below_drew1 HB.out)
                     clear HO_8
                     clear HO_123001
                     clear HO_123002
                     clear BK109
                     clear BK110
                     clear BK111
                     clear BK112
                     clear BK122
                     clear HB
                     have HO_8 := n0_
                     have HO_123001 := n1_
                     have HO_123002 := n2_
                     have BK109 := n3_
                     have BK110 := n4_
                     have BK111 := n5_
                     have BK112 := n6_
                     have BK122 := n7_
                     have HB := n8_
                     clear n0_ n1_ n2_ n3_ n4_ n5_ n6_ n7_ n8_
                     have p134 : 0 ≤ (x9_1 : Int) := of_decide_eq_true (by assumption)
                     have q134 : x9_1 < (l1.length : Int) := of_decide_eq_true (by assumption)
                     obtain ⟨ad134, A134_1, c134_1, A134_2, c134_2, e134, hx134_0, hx134_1, hx134_2, hx134_3, hl134_1, hi134_1, hl134_2, hi134_2⟩ := at_T44 HR1.out x9_1 p134 q134
                     have hw134_3 := hx134_3
                     have hw134_2 := hx134_2
                     have hw134_1 := hx134_1
                     have hw134_0 := hx134_0
                     obtain rfl : ad115 = ad134 := (by injection e134)
                     replace hx134_0 := pw_cell_below HB.out hx134_0
                     replace hx134_1 := pw_cell_below HB.out hx134_1
                     replace hx134_2 := pw_cell_below HB.out hx134_2
                     replace hx134_3 := pw_cell_below HB.out hx134_3
                     have HR134_1 := Aside0.mk hi134_1
                     have HC134_1 := Aside0.mk hl134_1
                     clear hi134_1 hl134_1
                     have HR134_2 := Aside0.mk hi134_2
                     have HC134_2 := Aside0.mk hl134_2
                     clear hi134_2 hl134_2
                     replace p134 := eq_true p134
                     replace q134 := eq_true q134
                     have p135 : 0 ≤ (x11_3 : Int) := of_decide_eq_true (by assumption)
                     have q135 : x11_3 < (((rd_T44 l1 x9_1).f0.f2).length : Int) := of_decide_eq_true (by assumption)
                     obtain ⟨ad135, e135, hx135_0⟩ := Kd.at_int HR134_2.out x11_3 p135 q135
                     have hw135_0 := hx135_0
                     cases e135
                     replace hx135_0 := pw_cell_below HB.out hx135_0
                     replace p135 := eq_true p135
                     replace q135 := eq_true q135
                     have p49 : 0 ≤ (x11_3 : Int) := of_decide_eq_true (by assumption)
                     have q49 : (x11_3 : Int) < ((x123002_3.length : Int) : Int) := of_decide_eq_true (by assumption)
                     obtain ⟨go49, co49, eo49, gb49, gl49, cl49, HG49⟩ := Kd.R_form HO_123002.out (by omega)
                     (first | cases eo49 | (injection eo49 with ea_ en_ ec_; (first | subst ea_ | (injection ea_ with ea_; subst ea_)); subst ec_; clear en_))
                     have GB49 := Aside0.mk gb49
                     have GG49 := Aside0.mk HG49
                     clear gb49 gl49 HG49
                     obtain ⟨hx49_0, hf49_0⟩ := Kd.R_celln 0 HO_123002.out (x11_3 : Int) p49 q49
                     replace p49 := eq_true p49
                     replace q49 := eq_true q49
                     have HP54 := Kd.R_putn HO_123002.out (x11_3 : Int) (rd ((rd_T44 l1 x9_1).f0.f2) x11_3)
                     rw [← Ny136.out] at HP54
                     have HQ54 := Aside0.mk HP54
                     clear HP54
                     refine start_ (n := 14) (S := fun w' => w'.cell? ⟨gb122, 0, none⟩ = some (.int .i64 ((rd_T44 l1 x9_1).f0.f0)) ∧ w'.cell? ⟨gb122, 1, none⟩ = some (.slice (some ⟨go46, 0, none⟩) x123001_3.length co46) ∧ w'.cell? ⟨gb122, 2, none⟩ = some (.slice (some ⟨go49, 0, none⟩) x123002_3.length co49) ∧ w'.cell? (ad115.add ((x9_1).toNat * 4)) = some (.int .i64 ((rd_T44 l1 x9_1).f0.f0)) ∧ w'.cell? ⟨(ad115.add ((x9_1).toNat * 4)).block, (ad115.add ((x9_1).toNat * 4)).off + 1, none⟩ = some (.slice A134_1 ((rd_T44 l1 x9_1).f0.f1).length c134_1) ∧ w'.cell? ⟨(ad115.add ((x9_1).toNat * 4)).block, (ad115.add ((x9_1).toNat * 4)).off + 2, none⟩ = some (.slice (some ad135) ((rd_T44 l1 x9_1).f0.f2).length c134_2) ∧ w'.cell? ⟨(ad115.add ((x9_1).toNat * 4)).block, (ad115.add ((x9_1).toNat * 4)).off + 3, none⟩ = some (.int .u64 ((rd_T44 l1 x9_1).f1)) ∧ w'.cell? (ad135.add (x11_3).toNat) = some (.int .i64 (rd ((rd_T44 l1 x9_1).f0.f2) x11_3))) (ds := [13]) #[false, false, false, false, false, false, false, false, false, false, false, false, false, false] (by kernel_rfl) rfl rfl ⟨(blk_cell BK122.out 0).trans rfl, (blk_cell BK122.out 1).trans rfl, (blk_cell BK122.out 2).trans rfl, (pw_cell_below HB.out hw134_0), (pw_cell_below HB.out hw134_1), (pw_cell_below HB.out hw134_2), (pw_cell_below HB.out hw134_3), (pw_cell_below HB.out hw135_0)⟩ (fun hHeld => ?_); refine with_tabW gristmilllaw06_right.tab14 gristmilllaw06_right.bits14 (fun HT_ HW_ => ?_)
                     generalize w52.drew = w53 at HO_8 HO_123001 HO_123002 BK109 BK110 BK111 BK112 BK122 HB GG49 HQ51 HQ54 HR134_1 HR134_2 hf49_0 hx134_0 hx134_1 hx134_2 hx134_3 hx135_0 hx49_0 hHeld ⊢
                     refine pure_ (i := 0) (N := some 90) (v := ?_) (a' := ?_) #[true, false, false, false, false, false, false, false, false, false, false, false, false, false] rfl rfl (any_of HT_.out (by kernel_rfl)) (fun _ _ _ h => h) (Or.inl ⟨by rfl, ?_⟩) ?_ ?_
                     rotate_left
                     ·intro w'
                      go_simp
                      with_reducible rfl
                     rotate_left
                     ·simp only [Act.put, q1_, q2_, q3_, i64_w, i32_w]
                      rfl
                     refine pure_ (i := 2) (N := some 92) (v := ?_) (a' := ?_) #[true, false, true, false, false, false, false, false, false, false, false, false, false, false] rfl rfl (any_of HT_.out (by kernel_rfl)) (fun _ _ _ h => h) (Or.inl ⟨by rfl, ?_⟩) ?_ ?_
                     rotate_left
                     ·intro w'
                      go_simp
                      with_reducible rfl
                     rotate_left
                     ·simp only [Act.put, q1_, q2_, q3_, i64_w, i32_w]
                      rfl
                     refine pure_ (i := 3) (N := some 93) (v := ?_) (a' := ?_) #[true, false, true, true, false, false, false, false, false, false, false, false, false, false] rfl rfl (any_of HT_.out (by kernel_rfl)) (fun _ _ _ h => h) (Or.inl ⟨by rfl, ?_⟩) ?_ ?_
                     rotate_left
                     ·intro w'
                      go_simp
                      with_reducible rfl
                     rotate_left
                     ·simp only [Act.put, q1_, q2_, q3_, i64_w, i32_w]
                      rfl
                     refine pure_ (i := 4) (N := some 94) (v := ?_) (a' := ?_) #[true, false, true, true, true, false, false, false, false, false, false, false, false, false] rfl rfl (any_of HT_.out (by kernel_rfl)) (fun _ _ _ h => h) (Or.inl ⟨by rfl, ?_⟩) ?_ ?_
                     rotate_left
                     ·intro w'
                      go_simp
                      with_reducible rfl
                     rotate_left
                     ·simp only [Act.put, q1_, q2_, q3_, i64_w, i32_w]
                      rfl
                     refine pure_ (i := 5) (N := some 95) (v := ?_) (a' := ?_) #[true, false, true, true, true, true, false, false, false, false, false, false, false, false] rfl rfl (any_of HT_.out (by kernel_rfl)) (fun _ _ _ h => h) (Or.inl ⟨by rfl, ?_⟩) ?_ ?_
                     rotate_left
                     ·intro w'
                      go_simp
                      with_reducible rfl
                     rotate_left
                     ·simp only [Act.put, q1_, q2_, q3_, i64_w, i32_w]
                      rfl
                     refine pure_ (i := 6) (N := some 96) (v := ?_) (a' := ?_) #[true, false, true, true, true, true, true, false, false, false, false, false, false, false] rfl rfl (any_of HT_.out (by kernel_rfl)) (fun _ _ _ h => h) (Or.inl ⟨by rfl, ?_⟩) ?_ ?_
                     rotate_left
                     ·intro w'
                      go_simp
                      with_reducible rfl
                     rotate_left
                     ·simp only [Act.put, q1_, q2_, q3_, i64_w, i32_w]
                      rfl
                     refine pure_ (i := 7) (N := some 97) (v := ?_) (a' := ?_) #[true, false, true, true, true, true, true, true, false, false, false, false, false, false] rfl rfl (any_of HT_.out (by kernel_rfl)) (fun _ _ _ h => h) (Or.inl ⟨by rfl, ?_⟩) ?_ ?_
                     rotate_left
                     ·intro w'
                      go_simp
                      with_reducible rfl
                     rotate_left
                     ·simp only [Act.put, q1_, q2_, q3_, i64_w, i32_w]
                      rfl
                     refine pure_ (i := 9) (N := some 99) (v := ?_) (a' := ?_) #[true, false, true, true, true, true, true, true, false, true, false, false, false, false] rfl rfl (any_of HT_.out (by kernel_rfl)) (fun _ _ _ h => h) (Or.inl ⟨by rfl, ?_⟩) ?_ ?_
                     rotate_left
                     ·intro w'
                      go_simp
                      with_reducible rfl
                     rotate_left
                     ·simp only [Act.put, q1_, q2_, q3_, i64_w, i32_w]
                      rfl
                     refine take_ (i := 1) (N := some 91) (v := ?_) (a' := ?_) #[true, true, true, true, true, true, true, true, false, true, false, false, false, false] rfl rfl (take_ofW HT_.out HW_.out (by kernel_rfl)) (fun _ _ _ h => h) (Or.inl ⟨by rfl, ?_⟩) hHeld ?_ ?_
                     rotate_left
                     ·rintro w' ⟨s0, s1, s2, s3, s4, s5, s6, s7⟩
                      go_simp
                      with_reducible rfl
                     rotate_left
                     ·simp only [Act.put, q1_, q2_, q3_, i64_w, i32_w]
                      rfl
                     refine take_ (i := 8) (N := some 98) (v := ?_) (a' := ?_) #[true, true, true, true, true, true, true, true, true, true, false, false, false, false] rfl rfl (take_ofW HT_.out HW_.out (by kernel_rfl)) (fun _ _ _ h => h) (Or.inl ⟨by rfl, ?_⟩) hHeld ?_ ?_
                     rotate_left
                     ·rintro w' ⟨s0, s1, s2, s3, s4, s5, s6, s7⟩
                      go_simp
                      with_reducible rfl
                     rotate_left
                     ·simp only [Act.put, q1_, q2_, q3_, i64_w, i32_w]
                      rfl
                     refine pure_ (i := 10) (N := some 100) (v := ?_) (a' := ?_) #[true, true, true, true, true, true, true, true, true, true, true, false, false, false] rfl rfl (any_of HT_.out (by kernel_rfl)) (fun _ _ _ h => h) (Or.inl ⟨by rfl, ?_⟩) ?_ ?_
                     rotate_left
                     ·intro w'
                      go_simp
                      with_reducible rfl
                     rotate_left
                     ·simp only [Act.put, q1_, q2_, q3_, i64_w, i32_w]
                      rfl
                     refine take_ (i := 11) (N := some 101) (v := ?_) (a' := ?_) #[true, true, true, true, true, true, true, true, true, true, true, true, false, false] rfl rfl (take_ofW HT_.out HW_.out (by kernel_rfl)) (fun _ _ _ h => h) (Or.inl ⟨by rfl, ?_⟩) hHeld ?_ ?_
                     rotate_left
                     ·rintro w' ⟨s0, s1, s2, s3, s4, s5, s6, s7⟩
                      go_simp
                      with_reducible rfl
                     rotate_left
                     ·simp only [Act.put, q1_, q2_, q3_, i64_w, i32_w]
                      rfl
                     refine pure_ (i := 12) (N := some 102) (v := ?_) (a' := ?_) #[true, true, true, true, true, true, true, true, true, true, true, true, true, false] rfl rfl (any_of HT_.out (by kernel_rfl)) (fun _ _ _ h => h) (Or.inl ⟨by rfl, ?_⟩) ?_ ?_
                     rotate_left
                     ·intro w'
                      go_simp
                      with_reducible rfl
                     rotate_left
                     ·simp only [Act.put, q1_, q2_, q3_, i64_w, i32_w]
                      rfl
                     refine last_ (i := 13) (N := none) #[true, true, true, true, true, true, true, true, true, true, true, true, true, true] rfl rfl (one_of HT_.out (by kernel_rfl)) (by decide) (fun K hK => ?_)
                     refine skip_ (w1 := ?_) (by rfl) rfl ?_ ?_
                     rotate_left
                     ·go_simp
                      rfl
                     refine hK.out _ _ ?_
                     clear hK K
                     refine done_ (done_of HT_.out (by kernel_rfl)) ?_
                     try go_wp2
                     go_roundg kj34
                     case measure => have := HK1.out; have := HJ16.out; have := HK3.out; have := HJ34.out; omega
                     case rel => exact ⟨(wrap64 (x11_3 + 1)), (y132), (y136), (.slice (some ⟨go46, 0, none⟩) x123001_3.length co46), (.slice (some ⟨go49, 0, none⟩) x123002_3.length co49), (by first | rfl | (simp; done) | (simp [*]; done)), H', ⟨by have := HK1.out; have := HJ16.out; have := HK3.out; have := HJ34.out; omega⟩, ⟨by (with_reducible repeat (first | apply Kd.S_alloc | apply Kd.S_drewN | apply Kd.S_drew)); exact Kd.S_mono (Kd.S_far (p := ⟨go49, (x11_3 : Int).toNat, none⟩) (Kd.S_mono HO_8.out (fun k_ hk => (⟨hk, fun e_ => hk.2 (by rw [e_]; rfl)⟩ : _ ∧ k_ ≠ go49))) (fun _ hk => hk.2) (.int .i64 (rd ((rd_T44 l1 x9_1).f0.f2) x11_3))) (fun _ hk => ⟨hk.1.1, hk.1.2⟩)⟩, ⟨by (with_reducible repeat (first | apply Kd.R_alloc | apply Kd.R_drewN | apply Kd.R_drew)); exact Kd.R_mono (Kd.R_far (p := ⟨go49, (x11_3 : Int).toNat, none⟩) (Kd.R_types HO_123001.out GG49.out (by decide)) (fun _ hk => hk.2) (.int .i64 (rd ((rd_T44 l1 x9_1).f0.f2) x11_3))) (fun _ hk => trivial)⟩, ⟨by (with_reducible repeat (first | apply Kd.R_alloc | apply Kd.R_drewN | apply Kd.R_drew)); exact HQ54.out⟩, ⟨by (with_reducible repeat (first | refine blk_drewN ?_ _ | refine blk_drew ?_ | refine blk_alloc ?_ _)); refine blk_far ?_ (by have h_ := Kd.R_ne HO_123002.out BK109.out (by decide); intro e_; exact h_ (by rw [e_]; rfl)) _; (with_reducible repeat (first | refine blk_drewN ?_ _ | refine blk_drew ?_ | refine blk_alloc ?_ _)); exact BK109.out⟩, ⟨by (with_reducible repeat (first | refine blk_drewN ?_ _ | refine blk_drew ?_ | refine blk_alloc ?_ _)); refine blk_far ?_ (by have h_ := Kd.R_ne HO_123002.out BK110.out (by decide); intro e_; exact h_ (by rw [e_]; rfl)) _; (with_reducible repeat (first | refine blk_drewN ?_ _ | refine blk_drew ?_ | refine blk_alloc ?_ _)); exact BK110.out⟩, ⟨by (with_reducible repeat (first | refine blk_drewN ?_ _ | refine blk_drew ?_ | refine blk_alloc ?_ _)); refine blk_far ?_ (by have h_ := Kd.R_ne HO_123002.out BK111.out (by decide); intro e_; exact h_ (by rw [e_]; rfl)) _; (with_reducible repeat (first | refine blk_drewN ?_ _ | refine blk_drew ?_ | refine blk_alloc ?_ _)); exact BK111.out⟩, ⟨by (with_reducible repeat (first | refine blk_drewN ?_ _ | refine blk_drew ?_ | refine blk_alloc ?_ _)); refine blk_far ?_ (by have h_ := Kd.R_ne HO_123002.out BK112.out (by decide); intro e_; exact h_ (by rw [e_]; rfl)) _; (with_reducible repeat (first | refine blk_drewN ?_ _ | refine blk_drew ?_ | refine blk_alloc ?_ _)); exact BK112.out⟩, ⟨by (with_reducible repeat (first | refine blk_drewN ?_ _ | refine blk_drew ?_ | refine blk_alloc ?_ _)); refine blk_far ?_ (by have h_ := Kd.R_ne HO_123002.out BK122.out (by decide); intro e_; exact h_ (by rw [e_]; rfl)) _; (with_reducible repeat (first | refine blk_drewN ?_ _ | refine blk_drew ?_ | refine blk_alloc ?_ _)); exact BK122.out⟩, ⟨by repeat (first | (with_reducible first | exact HB.out | apply below_alloc | apply pw_below_drewN | apply below_drew1 | refine below_set ?_ GB49.out | refine below_set ?_ GE109.out | refine below_set ?_ GE110.out | refine below_set ?_ GE111.out | refine below_set ?_ GE112.out | refine below_set ?_ GE122.out) | exact HB.out)⟩⟩
                    ·rw [if_neg c48] at H
                     exact absurd H (by simp)
                   ·rw [if_neg c47] at H
                    have c47b0 : decide (x11_3 < (((rd_T44 l1 x9_1).f0.f2).length : Int)) = false := decide_eq_false c47
                    clear c47
                    have H' := Aside0.mk H
                    clear H
                    try go_wp2
                    have n0_ := Aside0.mk (Kd.S_drew HO_8.out)
                    have n1_ := Aside0.mk (Kd.R_drew HO_123001.out)
                    have n2_ := Aside0.mk (Kd.R_drew HO_123002.out)
                    have n3_ := Aside0.mk (blk_drew BK109.out)
                    have n4_ := Aside0.mk (blk_drew BK110.out)
                    have n5_ := Aside0.mk (blk_drew BK111.out)
                    have n6_ := Aside0.mk (blk_drew BK112.out)
                    have n7_ := Aside0.mk (blk_drew BK122.out)
                    have n8_ := Aside0.mk (below_drew1 HB.out)
                    clear HO_8
                    clear HO_123001
                    clear HO_123002
                    clear BK109
                    clear BK110
                    clear BK111
                    clear BK112
                    clear BK122
                    clear HB
                    have HO_8 := n0_
                    have HO_123001 := n1_
                    have HO_123002 := n2_
                    have BK109 := n3_
                    have BK110 := n4_
                    have BK111 := n5_
                    have BK112 := n6_
                    have BK122 := n7_
                    have HB := n8_
                    clear n0_ n1_ n2_ n3_ n4_ n5_ n6_ n7_ n8_
                    have p130 : 0 ≤ (x9_1 : Int) := of_decide_eq_true (by assumption)
                    have q130 : x9_1 < (l1.length : Int) := of_decide_eq_true (by assumption)
                    obtain ⟨ad130, A130_1, c130_1, A130_2, c130_2, e130, hx130_0, hx130_1, hx130_2, hx130_3, hl130_1, hi130_1, hl130_2, hi130_2⟩ := at_T44 HR1.out x9_1 p130 q130
                    have hw130_3 := hx130_3
                    have hw130_2 := hx130_2
                    have hw130_1 := hx130_1
                    have hw130_0 := hx130_0
                    obtain rfl : ad115 = ad130 := (by injection e130)
                    replace hx130_0 := pw_cell_below HB.out hx130_0
                    replace hx130_1 := pw_cell_below HB.out hx130_1
                    replace hx130_2 := pw_cell_below HB.out hx130_2
                    replace hx130_3 := pw_cell_below HB.out hx130_3
                    have HR130_1 := Aside0.mk hi130_1
                    have HC130_1 := Aside0.mk hl130_1
                    clear hi130_1 hl130_1
                    have HR130_2 := Aside0.mk hi130_2
                    have HC130_2 := Aside0.mk hl130_2
                    clear hi130_2 hl130_2
                    replace p130 := eq_true p130
                    replace q130 := eq_true q130
                    have p131 : 0 ≤ (x11_3 : Int) := of_decide_eq_true (by assumption)
                    have q131 : x11_3 < (((rd_T44 l1 x9_1).f0.f1).length : Int) := of_decide_eq_true (by assumption)
                    obtain ⟨ad131, e131, hx131_0⟩ := Kd.at_string HR130_1.out x11_3 p131 q131
                    have hw131_0 := hx131_0
                    cases e131
                    replace hx131_0 := pw_cell_below HB.out hx131_0
                    replace p131 := eq_true p131
                    replace q131 := eq_true q131
                    have p46 : 0 ≤ (x11_3 : Int) := of_decide_eq_true (by assumption)
                    have q46 : (x11_3 : Int) < ((x123001_3.length : Int) : Int) := of_decide_eq_true (by assumption)
                    obtain ⟨go46, co46, eo46, gb46, gl46, cl46, HG46⟩ := Kd.R_form HO_123001.out (by omega)
                    (first | cases eo46 | (injection eo46 with ea_ en_ ec_; (first | subst ea_ | (injection ea_ with ea_; subst ea_)); subst ec_; clear en_))
                    have GB46 := Aside0.mk gb46
                    have GG46 := Aside0.mk HG46
                    clear gb46 gl46 HG46
                    obtain ⟨hx46_0, hf46_0⟩ := Kd.R_celln (⟨#[]⟩ : ByteArray) HO_123001.out (x11_3 : Int) p46 q46
                    replace p46 := eq_true p46
                    replace q46 := eq_true q46
                    have HP56 := Kd.R_putn HO_123001.out (x11_3 : Int) (rdOf ByteArray.empty ((rd_T44 l1 x9_1).f0.f1) x11_3)
                    rw [← Ny132.out] at HP56
                    have HQ56 := Aside0.mk HP56
                    clear HP56
                    refine start_ (n := 14) (S := fun w' => w'.cell? ⟨gb122, 0, none⟩ = some (.int .i64 ((rd_T44 l1 x9_1).f0.f0)) ∧ w'.cell? ⟨gb122, 1, none⟩ = some (.slice (some ⟨go46, 0, none⟩) x123001_3.length co46) ∧ w'.cell? ⟨gb122, 2, none⟩ = some (u123002) ∧ w'.cell? (ad115.add ((x9_1).toNat * 4)) = some (.int .i64 ((rd_T44 l1 x9_1).f0.f0)) ∧ w'.cell? ⟨(ad115.add ((x9_1).toNat * 4)).block, (ad115.add ((x9_1).toNat * 4)).off + 1, none⟩ = some (.slice (some ad131) ((rd_T44 l1 x9_1).f0.f1).length c130_1) ∧ w'.cell? ⟨(ad115.add ((x9_1).toNat * 4)).block, (ad115.add ((x9_1).toNat * 4)).off + 2, none⟩ = some (.slice A130_2 ((rd_T44 l1 x9_1).f0.f2).length c130_2) ∧ w'.cell? ⟨(ad115.add ((x9_1).toNat * 4)).block, (ad115.add ((x9_1).toNat * 4)).off + 3, none⟩ = some (.int .u64 ((rd_T44 l1 x9_1).f1)) ∧ w'.cell? (ad131.add (x11_3).toNat) = some (.string (rdOf ByteArray.empty ((rd_T44 l1 x9_1).f0.f1) x11_3))) (ds := [13]) #[false, false, false, false, false, false, false, false, false, false, false, false, false, false] (by kernel_rfl) rfl rfl ⟨(blk_cell BK122.out 0).trans rfl, (blk_cell BK122.out 1).trans rfl, (blk_cell BK122.out 2).trans rfl, (pw_cell_below HB.out hw130_0), (pw_cell_below HB.out hw130_1), (pw_cell_below HB.out hw130_2), (pw_cell_below HB.out hw130_3), (pw_cell_below HB.out hw131_0)⟩ (fun hHeld => ?_); refine with_tabW gristmilllaw06_right.tab12 gristmilllaw06_right.bits12 (fun HT_ HW_ => ?_)
                    generalize wc.drew = w55 at HO_8 HO_123001 HO_123002 BK109 BK110 BK111 BK112 BK122 HB GG46 HQ56 HR130_1 HR130_2 hf46_0 hx130_0 hx130_1 hx130_2 hx130_3 hx131_0 hx46_0 hHeld ⊢
                    refine pure_ (i := 0) (N := some 68) (v := ?_) (a' := ?_) #[true, false, false, false, false, false, false, false, false, false, false, false, false, false] rfl rfl (any_of HT_.out (by kernel_rfl)) (fun _ _ _ h => h) (Or.inl ⟨by rfl, ?_⟩) ?_ ?_
                    rotate_left
                    ·intro w'
                     go_simp
                     with_reducible rfl
                    rotate_left
                    ·simp only [Act.put, q1_, q2_, q3_, i64_w, i32_w]
                     rfl
                    refine pure_ (i := 2) (N := some 70) (v := ?_) (a' := ?_) #[true, false, true, false, false, false, false, false, false, false, false, false, false, false] rfl rfl (any_of HT_.out (by kernel_rfl)) (fun _ _ _ h => h) (Or.inl ⟨by rfl, ?_⟩) ?_ ?_
                    rotate_left
                    ·intro w'
                     go_simp
                     with_reducible rfl
                    rotate_left
                    ·simp only [Act.put, q1_, q2_, q3_, i64_w, i32_w]
                     rfl
                    refine pure_ (i := 3) (N := some 71) (v := ?_) (a' := ?_) #[true, false, true, true, false, false, false, false, false, false, false, false, false, false] rfl rfl (any_of HT_.out (by kernel_rfl)) (fun _ _ _ h => h) (Or.inl ⟨by rfl, ?_⟩) ?_ ?_
                    rotate_left
                    ·intro w'
                     go_simp
                     with_reducible rfl
                    rotate_left
                    ·simp only [Act.put, q1_, q2_, q3_, i64_w, i32_w]
                     rfl
                    refine pure_ (i := 4) (N := some 72) (v := ?_) (a' := ?_) #[true, false, true, true, true, false, false, false, false, false, false, false, false, false] rfl rfl (any_of HT_.out (by kernel_rfl)) (fun _ _ _ h => h) (Or.inl ⟨by rfl, ?_⟩) ?_ ?_
                    rotate_left
                    ·intro w'
                     go_simp
                     with_reducible rfl
                    rotate_left
                    ·simp only [Act.put, q1_, q2_, q3_, i64_w, i32_w]
                     rfl
                    refine pure_ (i := 5) (N := some 73) (v := ?_) (a' := ?_) #[true, false, true, true, true, true, false, false, false, false, false, false, false, false] rfl rfl (any_of HT_.out (by kernel_rfl)) (fun _ _ _ h => h) (Or.inl ⟨by rfl, ?_⟩) ?_ ?_
                    rotate_left
                    ·intro w'
                     go_simp
                     with_reducible rfl
                    rotate_left
                    ·simp only [Act.put, q1_, q2_, q3_, i64_w, i32_w]
                     rfl
                    refine pure_ (i := 6) (N := some 74) (v := ?_) (a' := ?_) #[true, false, true, true, true, true, true, false, false, false, false, false, false, false] rfl rfl (any_of HT_.out (by kernel_rfl)) (fun _ _ _ h => h) (Or.inl ⟨by rfl, ?_⟩) ?_ ?_
                    rotate_left
                    ·intro w'
                     go_simp
                     with_reducible rfl
                    rotate_left
                    ·simp only [Act.put, q1_, q2_, q3_, i64_w, i32_w]
                     rfl
                    refine pure_ (i := 7) (N := some 75) (v := ?_) (a' := ?_) #[true, false, true, true, true, true, true, true, false, false, false, false, false, false] rfl rfl (any_of HT_.out (by kernel_rfl)) (fun _ _ _ h => h) (Or.inl ⟨by rfl, ?_⟩) ?_ ?_
                    rotate_left
                    ·intro w'
                     go_simp
                     with_reducible rfl
                    rotate_left
                    ·simp only [Act.put, q1_, q2_, q3_, i64_w, i32_w]
                     rfl
                    refine pure_ (i := 9) (N := some 77) (v := ?_) (a' := ?_) #[true, false, true, true, true, true, true, true, false, true, false, false, false, false] rfl rfl (any_of HT_.out (by kernel_rfl)) (fun _ _ _ h => h) (Or.inl ⟨by rfl, ?_⟩) ?_ ?_
                    rotate_left
                    ·intro w'
                     go_simp
                     with_reducible rfl
                    rotate_left
                    ·simp only [Act.put, q1_, q2_, q3_, i64_w, i32_w]
                     rfl
                    refine take_ (i := 1) (N := some 69) (v := ?_) (a' := ?_) #[true, true, true, true, true, true, true, true, false, true, false, false, false, false] rfl rfl (take_ofW HT_.out HW_.out (by kernel_rfl)) (fun _ _ _ h => h) (Or.inl ⟨by rfl, ?_⟩) hHeld ?_ ?_
                    rotate_left
                    ·rintro w' ⟨s0, s1, s2, s3, s4, s5, s6, s7⟩
                     go_simp
                     with_reducible rfl
                    rotate_left
                    ·simp only [Act.put, q1_, q2_, q3_, i64_w, i32_w]
                     rfl
                    refine take_ (i := 8) (N := some 76) (v := ?_) (a' := ?_) #[true, true, true, true, true, true, true, true, true, true, false, false, false, false] rfl rfl (take_ofW HT_.out HW_.out (by kernel_rfl)) (fun _ _ _ h => h) (Or.inl ⟨by rfl, ?_⟩) hHeld ?_ ?_
                    rotate_left
                    ·rintro w' ⟨s0, s1, s2, s3, s4, s5, s6, s7⟩
                     go_simp
                     with_reducible rfl
                    rotate_left
                    ·simp only [Act.put, q1_, q2_, q3_, i64_w, i32_w]
                     rfl
                    refine pure_ (i := 10) (N := some 78) (v := ?_) (a' := ?_) #[true, true, true, true, true, true, true, true, true, true, true, false, false, false] rfl rfl (any_of HT_.out (by kernel_rfl)) (fun _ _ _ h => h) (Or.inl ⟨by rfl, ?_⟩) ?_ ?_
                    rotate_left
                    ·intro w'
                     go_simp
                     with_reducible rfl
                    rotate_left
                    ·simp only [Act.put, q1_, q2_, q3_, i64_w, i32_w]
                     rfl
                    refine take_ (i := 11) (N := some 79) (v := ?_) (a' := ?_) #[true, true, true, true, true, true, true, true, true, true, true, true, false, false] rfl rfl (take_ofW HT_.out HW_.out (by kernel_rfl)) (fun _ _ _ h => h) (Or.inl ⟨by rfl, ?_⟩) hHeld ?_ ?_
                    rotate_left
                    ·rintro w' ⟨s0, s1, s2, s3, s4, s5, s6, s7⟩
                     go_simp
                     with_reducible rfl
                    rotate_left
                    ·simp only [Act.put, q1_, q2_, q3_, i64_w, i32_w]
                     rfl
                    refine pure_ (i := 12) (N := some 80) (v := ?_) (a' := ?_) #[true, true, true, true, true, true, true, true, true, true, true, true, true, false] rfl rfl (any_of HT_.out (by kernel_rfl)) (fun _ _ _ h => h) (Or.inl ⟨by rfl, ?_⟩) ?_ ?_
                    rotate_left
                    ·intro w'
                     go_simp
                     with_reducible rfl
                    rotate_left
                    ·simp only [Act.put, q1_, q2_, q3_, i64_w, i32_w]
                     rfl
                    refine last_ (i := 13) (N := none) #[true, true, true, true, true, true, true, true, true, true, true, true, true, true] rfl rfl (one_of HT_.out (by kernel_rfl)) (by decide) (fun K hK => ?_)
                    refine skip_ (w1 := ?_) (by rfl) rfl ?_ ?_
                    rotate_left
                    ·go_simp
                     rfl
                    refine hK.out _ _ ?_
                    clear hK K
                    refine done_ (done_of HT_.out (by kernel_rfl)) ?_
                    have p133 : 0 ≤ (x9_1 : Int) := of_decide_eq_true (by assumption)
                    have q133 : x9_1 < (l1.length : Int) := of_decide_eq_true (by assumption)
                    obtain ⟨ad133, A133_1, c133_1, A133_2, c133_2, e133, hx133_0, hx133_1, hx133_2, hx133_3, hl133_1, hi133_1, hl133_2, hi133_2⟩ := at_T44 HR1.out x9_1 p133 q133
                    obtain rfl : ad115 = ad133 := (by injection e133)
                    have hn133_0 : ad115.block ≠ go46 := Nat.ne_of_lt (Nat.lt_of_lt_of_le (by have := World.block_lt_of_cell? _ _ hx133_0; first | rwa [add_block] at this | exact this) GB46.out)
                    replace hx133_0 := pw_cell_below HB.out hx133_0
                    replace hx133_1 := pw_cell_below HB.out hx133_1
                    replace hx133_2 := pw_cell_below HB.out hx133_2
                    replace hx133_3 := pw_cell_below HB.out hx133_3
                    have HR133_1 := Aside0.mk hi133_1
                    have HC133_1 := Aside0.mk hl133_1
                    clear hi133_1 hl133_1
                    have HR133_2 := Aside0.mk hi133_2
                    have HC133_2 := Aside0.mk hl133_2
                    clear hi133_2 hl133_2
                    replace hx133_0 := (cell_far (p := ⟨go46, (x11_3 : Int).toNat, none⟩) (by first | (rw [add_block]; exact hn133_0) | (show (Addr.add _ _).block ≠ _; rw [add_block]; exact hn133_0) | exact hn133_0) (.string (rdOf ByteArray.empty ((rd_T44 l1 x9_1).f0.f1) x11_3))).trans hx133_0
                    replace hx133_1 := (cell_far (p := ⟨go46, (x11_3 : Int).toNat, none⟩) (by first | (rw [add_block]; exact hn133_0) | (show (Addr.add _ _).block ≠ _; rw [add_block]; exact hn133_0) | exact hn133_0) (.string (rdOf ByteArray.empty ((rd_T44 l1 x9_1).f0.f1) x11_3))).trans hx133_1
                    replace hx133_2 := (cell_far (p := ⟨go46, (x11_3 : Int).toNat, none⟩) (by first | (rw [add_block]; exact hn133_0) | (show (Addr.add _ _).block ≠ _; rw [add_block]; exact hn133_0) | exact hn133_0) (.string (rdOf ByteArray.empty ((rd_T44 l1 x9_1).f0.f1) x11_3))).trans hx133_2
                    replace hx133_3 := (cell_far (p := ⟨go46, (x11_3 : Int).toNat, none⟩) (by first | (rw [add_block]; exact hn133_0) | (show (Addr.add _ _).block ≠ _; rw [add_block]; exact hn133_0) | exact hn133_0) (.string (rdOf ByteArray.empty ((rd_T44 l1 x9_1).f0.f1) x11_3))).trans hx133_3
                    clear hn133_0
                    replace p133 := eq_true p133
                    replace q133 := eq_true q133
                    try go_wp2
                    go_roundg kj34
                    case measure => have := HK1.out; have := HJ16.out; have := HK3.out; have := HJ34.out; omega
                    case rel => exact ⟨(wrap64 (x11_3 + 1)), (y132), (x123002_3), (.slice (some ⟨go46, 0, none⟩) x123001_3.length co46), (u123002), (by first | rfl | (simp; done) | (simp [*]; done)), H', ⟨by have := HK1.out; have := HJ16.out; have := HK3.out; have := HJ34.out; omega⟩, ⟨by (with_reducible repeat (first | apply Kd.S_alloc | apply Kd.S_drewN | apply Kd.S_drew)); exact Kd.S_mono (Kd.S_far (p := ⟨go46, (x11_3 : Int).toNat, none⟩) (Kd.S_mono HO_8.out (fun k_ hk => (⟨hk, fun e_ => hk.1 (by rw [e_]; rfl)⟩ : _ ∧ k_ ≠ go46))) (fun _ hk => hk.2) (.string (rdOf ByteArray.empty ((rd_T44 l1 x9_1).f0.f1) x11_3))) (fun _ hk => ⟨hk.1.1, hk.1.2⟩)⟩, ⟨by (with_reducible repeat (first | apply Kd.R_alloc | apply Kd.R_drewN | apply Kd.R_drew)); exact HQ56.out⟩, ⟨by (with_reducible repeat (first | apply Kd.R_alloc | apply Kd.R_drewN | apply Kd.R_drew)); exact Kd.R_mono (Kd.R_far (p := ⟨go46, (x11_3 : Int).toNat, none⟩) (Kd.R_types HO_123002.out GG46.out (by decide)) (fun _ hk => hk.2) (.string (rdOf ByteArray.empty ((rd_T44 l1 x9_1).f0.f1) x11_3))) (fun _ hk => trivial)⟩, ⟨by (with_reducible repeat (first | refine blk_drewN ?_ _ | refine blk_drew ?_ | refine blk_alloc ?_ _)); refine blk_far ?_ (by have h_ := Kd.R_ne HO_123001.out BK109.out (by decide); intro e_; exact h_ (by rw [e_]; rfl)) _; (with_reducible repeat (first | refine blk_drewN ?_ _ | refine blk_drew ?_ | refine blk_alloc ?_ _)); exact BK109.out⟩, ⟨by (with_reducible repeat (first | refine blk_drewN ?_ _ | refine blk_drew ?_ | refine blk_alloc ?_ _)); refine blk_far ?_ (by have h_ := Kd.R_ne HO_123001.out BK110.out (by decide); intro e_; exact h_ (by rw [e_]; rfl)) _; (with_reducible repeat (first | refine blk_drewN ?_ _ | refine blk_drew ?_ | refine blk_alloc ?_ _)); exact BK110.out⟩, ⟨by (with_reducible repeat (first | refine blk_drewN ?_ _ | refine blk_drew ?_ | refine blk_alloc ?_ _)); refine blk_far ?_ (by have h_ := Kd.R_ne HO_123001.out BK111.out (by decide); intro e_; exact h_ (by rw [e_]; rfl)) _; (with_reducible repeat (first | refine blk_drewN ?_ _ | refine blk_drew ?_ | refine blk_alloc ?_ _)); exact BK111.out⟩, ⟨by (with_reducible repeat (first | refine blk_drewN ?_ _ | refine blk_drew ?_ | refine blk_alloc ?_ _)); refine blk_far ?_ (by have h_ := Kd.R_ne HO_123001.out BK112.out (by decide); intro e_; exact h_ (by rw [e_]; rfl)) _; (with_reducible repeat (first | refine blk_drewN ?_ _ | refine blk_drew ?_ | refine blk_alloc ?_ _)); exact BK112.out⟩, ⟨by (with_reducible repeat (first | refine blk_drewN ?_ _ | refine blk_drew ?_ | refine blk_alloc ?_ _)); refine blk_far ?_ (by have h_ := Kd.R_ne HO_123001.out BK122.out (by decide); intro e_; exact h_ (by rw [e_]; rfl)) _; (with_reducible repeat (first | refine blk_drewN ?_ _ | refine blk_drew ?_ | refine blk_alloc ?_ _)); exact BK122.out⟩, ⟨by repeat (first | (with_reducible first | exact HB.out | apply below_alloc | apply pw_below_drewN | apply below_drew1 | refine below_set ?_ GB46.out | refine below_set ?_ GE109.out | refine below_set ?_ GE110.out | refine below_set ?_ GE111.out | refine below_set ?_ GE112.out | refine below_set ?_ GE122.out) | exact HB.out)⟩⟩
                  ·rw [if_neg c45] at H
                   exact absurd H (by simp)
                 ·rw [if_neg c44] at H
                  exact absurd H (by simp)
                ·rw [if_neg c43] at H
                 exact absurd H (by simp)
               ·rw [if_neg c42] at H
                exact absurd H (by simp)
              ·rw [if_neg c41] at H
               exact absurd H (by simp)
             ·replace c40 := Bool.eq_false_iff.mpr c40
              subst c40
              have H1 : (if 0 ≤ x9_1 then (if x9_1 < (l1.length : Int) then (if x11_3 < (((rd_T44 l1 x9_1).f0.f2).length : Int) then (if 0 ≤ x11_3 then (if x11_3 < (x123002_3.length : Int) then (gristmilllaw06_right.l1 kj34 l1 x8_1 x9_1 (wrap64 (x11_3 + 1)) (wrap64 (1 + (Int.tmod t113 5))) (Int.tmod t114 2) 2 2 ((rd_T44 l1 x9_1).f0.f0) x123001_3 (x123002_3.set (x11_3 : Int).toNat (rd ((rd_T44 l1 x9_1).f0.f2) x11_3))) else (none)) else (none)) else (gristmilllaw06_right.l1 kj34 l1 x8_1 x9_1 (wrap64 (x11_3 + 1)) (wrap64 (1 + (Int.tmod t113 5))) (Int.tmod t114 2) 2 2 ((rd_T44 l1 x9_1).f0.f0) x123001_3 x123002_3)) else (none)) else (none)) = some (r1, r2, r3, r4, r5) := by rw [if_neg (show ¬ (false = true) by decide)] at H; exact H
              clear H
              have H := H1
              clear H1
              by_cases c57 : 0 ≤ x9_1
              ·rw [if_pos c57] at H
               have c57b0 : decide (0 ≤ x9_1) = true := decide_eq_true c57
               clear c57
               by_cases c58 : x9_1 < (l1.length : Int)
               ·rw [if_pos c58] at H
                have c58b0 : decide (x9_1 < (l1.length : Int)) = true := decide_eq_true c58
                clear c58
                by_cases c59 : x11_3 < (((rd_T44 l1 x9_1).f0.f2).length : Int)
                ·rw [if_pos c59] at H
                 have c59b0 : decide (x11_3 < (((rd_T44 l1 x9_1).f0.f2).length : Int)) = true := decide_eq_true c59
                 clear c59
                 by_cases c60 : 0 ≤ x11_3
                 ·rw [if_pos c60] at H
                  have c60b0 : decide (0 ≤ x11_3) = true := decide_eq_true c60
                  clear c60
                  by_cases c61 : x11_3 < (x123002_3.length : Int)
                  ·rw [if_pos c61] at H
                   have c61b0 : decide (x11_3 < (x123002_3.length : Int)) = true := decide_eq_true c61
                   clear c61
                   obtain ⟨y140, hy140⟩ : ∃ y_ : List Int, y_ = (x123002_3.set (x11_3 : Int).toNat (rd ((rd_T44 l1 x9_1).f0.f2) x11_3)) := ⟨_, rfl⟩
                   replace H : (gristmilllaw06_right.l1 kj34 l1 x8_1 x9_1 (wrap64 (x11_3 + 1)) (wrap64 (1 + (Int.tmod t113 5))) (Int.tmod t114 2) 2 2 ((rd_T44 l1 x9_1).f0.f0) x123001_3 y140) = some (r1, r2, r3, r4, r5) := by first | (rw [hy140]; with_reducible exact H) | (have H2_ := (Option.bind_some _ _).symm.trans H; rw [hy140]; with_reducible exact H2_) | (have H2_ := (Option.bind_some _ _).symm.trans H; with_reducible exact H2_) | with_reducible exact H | (rw [hy140]; exact H) | exact H
                   have Ny140 := Aside0.mk hy140
                   clear hy140
                   have H' := Aside0.mk H
                   clear H
                   have p137 : 0 ≤ (x9_1 : Int) := of_decide_eq_true (by assumption)
                   have q137 : x9_1 < (l1.length : Int) := of_decide_eq_true (by assumption)
                   obtain ⟨ad137, A137_1, c137_1, A137_2, c137_2, e137, hx137_0, hx137_1, hx137_2, hx137_3, hl137_1, hi137_1, hl137_2, hi137_2⟩ := at_T44 HR1.out x9_1 p137 q137
                   obtain rfl : ad115 = ad137 := (by injection e137)
                   replace hx137_0 := pw_cell_below HB.out hx137_0
                   replace hx137_1 := pw_cell_below HB.out hx137_1
                   replace hx137_2 := pw_cell_below HB.out hx137_2
                   replace hx137_3 := pw_cell_below HB.out hx137_3
                   have HR137_1 := Aside0.mk hi137_1
                   have HC137_1 := Aside0.mk hl137_1
                   clear hi137_1 hl137_1
                   have HR137_2 := Aside0.mk hi137_2
                   have HC137_2 := Aside0.mk hl137_2
                   clear hi137_2 hl137_2
                   replace p137 := eq_true p137
                   replace q137 := eq_true q137
                   try go_wp2
                   have n0_ := Aside0.mk (Kd.S_drew HO_8.out)
                   have n1_ := Aside0.mk (Kd.R_drew HO_123001.out)
                   have n2_ := Aside0.mk (Kd.R_drew HO_123002.out)
                   have n3_ := Aside0.mk (blk_drew BK109.out)
                   have n4_ := Aside0.mk (blk_drew BK110.out)
                   have n5_ := Aside0.mk (blk_drew BK111.out)
                   have n6_ := Aside0.mk (blk_drew BK112.out)
                   have n7_ := Aside0.mk (blk_drew BK122.out)
                   have n8_ := Aside0.mk (below_drew1 HB.out)
                   clear HO_8
                   clear HO_123001
                   clear HO_123002
                   clear BK109
                   clear BK110
                   clear BK111
                   clear BK112
                   clear BK122
                   clear HB
                   have HO_8 := n0_
                   have HO_123001 := n1_
                   have HO_123002 := n2_
                   have BK109 := n3_
                   have BK110 := n4_
                   have BK111 := n5_
                   have BK112 := n6_
                   have BK122 := n7_
                   have HB := n8_
                   clear n0_ n1_ n2_ n3_ n4_ n5_ n6_ n7_ n8_
                   have p138 : 0 ≤ (x9_1 : Int) := of_decide_eq_true (by assumption)
                   have q138 : x9_1 < (l1.length : Int) := of_decide_eq_true (by assumption)
                   obtain ⟨ad138, A138_1, c138_1, A138_2, c138_2, e138, hx138_0, hx138_1, hx138_2, hx138_3, hl138_1, hi138_1, hl138_2, hi138_2⟩ := at_T44 HR1.out x9_1 p138 q138
                   have hw138_3 := hx138_3
                   have hw138_2 := hx138_2
                   have hw138_1 := hx138_1
                   have hw138_0 := hx138_0
                   obtain rfl : ad115 = ad138 := (by injection e138)
                   replace hx138_0 := pw_cell_below HB.out hx138_0
                   replace hx138_1 := pw_cell_below HB.out hx138_1
                   replace hx138_2 := pw_cell_below HB.out hx138_2
                   replace hx138_3 := pw_cell_below HB.out hx138_3
                   have HR138_1 := Aside0.mk hi138_1
                   have HC138_1 := Aside0.mk hl138_1
                   clear hi138_1 hl138_1
                   have HR138_2 := Aside0.mk hi138_2
                   have HC138_2 := Aside0.mk hl138_2
                   clear hi138_2 hl138_2
                   replace p138 := eq_true p138
                   replace q138 := eq_true q138
                   have p139 : 0 ≤ (x11_3 : Int) := of_decide_eq_true (by assumption)
                   have q139 : x11_3 < (((rd_T44 l1 x9_1).f0.f2).length : Int) := of_decide_eq_true (by assumption)
                   obtain ⟨ad139, e139, hx139_0⟩ := Kd.at_int HR138_2.out x11_3 p139 q139
                   have hw139_0 := hx139_0
                   cases e139
                   replace hx139_0 := pw_cell_below HB.out hx139_0
                   replace p139 := eq_true p139
                   replace q139 := eq_true q139
                   have p62 : 0 ≤ (x11_3 : Int) := of_decide_eq_true (by assumption)
                   have q62 : (x11_3 : Int) < ((x123002_3.length : Int) : Int) := of_decide_eq_true (by assumption)
                   obtain ⟨go62, co62, eo62, gb62, gl62, cl62, HG62⟩ := Kd.R_form HO_123002.out (by omega)
                   (first | cases eo62 | (injection eo62 with ea_ en_ ec_; (first | subst ea_ | (injection ea_ with ea_; subst ea_)); subst ec_; clear en_))
                   have GB62 := Aside0.mk gb62
                   have GG62 := Aside0.mk HG62
                   clear gb62 gl62 HG62
                   obtain ⟨hx62_0, hf62_0⟩ := Kd.R_celln 0 HO_123002.out (x11_3 : Int) p62 q62
                   replace p62 := eq_true p62
                   replace q62 := eq_true q62
                   have HP64 := Kd.R_putn HO_123002.out (x11_3 : Int) (rd ((rd_T44 l1 x9_1).f0.f2) x11_3)
                   rw [← Ny140.out] at HP64
                   have HQ64 := Aside0.mk HP64
                   clear HP64
                   refine start_ (n := 14) (S := fun w' => w'.cell? ⟨gb122, 0, none⟩ = some (.int .i64 ((rd_T44 l1 x9_1).f0.f0)) ∧ w'.cell? ⟨gb122, 1, none⟩ = some (u123001) ∧ w'.cell? ⟨gb122, 2, none⟩ = some (.slice (some ⟨go62, 0, none⟩) x123002_3.length co62) ∧ w'.cell? (ad115.add ((x9_1).toNat * 4)) = some (.int .i64 ((rd_T44 l1 x9_1).f0.f0)) ∧ w'.cell? ⟨(ad115.add ((x9_1).toNat * 4)).block, (ad115.add ((x9_1).toNat * 4)).off + 1, none⟩ = some (.slice A138_1 ((rd_T44 l1 x9_1).f0.f1).length c138_1) ∧ w'.cell? ⟨(ad115.add ((x9_1).toNat * 4)).block, (ad115.add ((x9_1).toNat * 4)).off + 2, none⟩ = some (.slice (some ad139) ((rd_T44 l1 x9_1).f0.f2).length c138_2) ∧ w'.cell? ⟨(ad115.add ((x9_1).toNat * 4)).block, (ad115.add ((x9_1).toNat * 4)).off + 3, none⟩ = some (.int .u64 ((rd_T44 l1 x9_1).f1)) ∧ w'.cell? (ad139.add (x11_3).toNat) = some (.int .i64 (rd ((rd_T44 l1 x9_1).f0.f2) x11_3))) (ds := [13]) #[false, false, false, false, false, false, false, false, false, false, false, false, false, false] (by kernel_rfl) rfl rfl ⟨(blk_cell BK122.out 0).trans rfl, (blk_cell BK122.out 1).trans rfl, (blk_cell BK122.out 2).trans rfl, (pw_cell_below HB.out hw138_0), (pw_cell_below HB.out hw138_1), (pw_cell_below HB.out hw138_2), (pw_cell_below HB.out hw138_3), (pw_cell_below HB.out hw139_0)⟩ (fun hHeld => ?_); refine with_tabW gristmilllaw06_right.tab14 gristmilllaw06_right.bits14 (fun HT_ HW_ => ?_)
                   generalize wc.drew = w63 at HO_8 HO_123001 HO_123002 BK109 BK110 BK111 BK112 BK122 HB GG62 HQ64 HR138_1 HR138_2 hf62_0 hx138_0 hx138_1 hx138_2 hx138_3 hx139_0 hx62_0 hHeld ⊢
                   refine pure_ (i := 0) (N := some 90) (v := ?_) (a' := ?_) #[true, false, false, false, false, false, false, false, false, false, false, false, false, false] rfl rfl (any_of HT_.out (by kernel_rfl)) (fun _ _ _ h => h) (Or.inl ⟨by rfl, ?_⟩) ?_ ?_
                   rotate_left
                   ·intro w'
                    go_simp
                    with_reducible rfl
                   rotate_left
                   ·simp only [Act.put, q1_, q2_, q3_, i64_w, i32_w]
                    rfl
                   refine pure_ (i := 2) (N := some 92) (v := ?_) (a' := ?_) #[true, false, true, false, false, false, false, false, false, false, false, false, false, false] rfl rfl (any_of HT_.out (by kernel_rfl)) (fun _ _ _ h => h) (Or.inl ⟨by rfl, ?_⟩) ?_ ?_
                   rotate_left
                   ·intro w'
                    go_simp
                    with_reducible rfl
                   rotate_left
                   ·simp only [Act.put, q1_, q2_, q3_, i64_w, i32_w]
                    rfl
                   refine pure_ (i := 3) (N := some 93) (v := ?_) (a' := ?_) #[true, false, true, true, false, false, false, false, false, false, false, false, false, false] rfl rfl (any_of HT_.out (by kernel_rfl)) (fun _ _ _ h => h) (Or.inl ⟨by rfl, ?_⟩) ?_ ?_
                   rotate_left
                   ·intro w'
                    go_simp
                    with_reducible rfl
                   rotate_left
                   ·simp only [Act.put, q1_, q2_, q3_, i64_w, i32_w]
                    rfl
                   refine pure_ (i := 4) (N := some 94) (v := ?_) (a' := ?_) #[true, false, true, true, true, false, false, false, false, false, false, false, false, false] rfl rfl (any_of HT_.out (by kernel_rfl)) (fun _ _ _ h => h) (Or.inl ⟨by rfl, ?_⟩) ?_ ?_
                   rotate_left
                   ·intro w'
                    go_simp
                    with_reducible rfl
                   rotate_left
                   ·simp only [Act.put, q1_, q2_, q3_, i64_w, i32_w]
                    rfl
                   refine pure_ (i := 5) (N := some 95) (v := ?_) (a' := ?_) #[true, false, true, true, true, true, false, false, false, false, false, false, false, false] rfl rfl (any_of HT_.out (by kernel_rfl)) (fun _ _ _ h => h) (Or.inl ⟨by rfl, ?_⟩) ?_ ?_
                   rotate_left
                   ·intro w'
                    go_simp
                    with_reducible rfl
                   rotate_left
                   ·simp only [Act.put, q1_, q2_, q3_, i64_w, i32_w]
                    rfl
                   refine pure_ (i := 6) (N := some 96) (v := ?_) (a' := ?_) #[true, false, true, true, true, true, true, false, false, false, false, false, false, false] rfl rfl (any_of HT_.out (by kernel_rfl)) (fun _ _ _ h => h) (Or.inl ⟨by rfl, ?_⟩) ?_ ?_
                   rotate_left
                   ·intro w'
                    go_simp
                    with_reducible rfl
                   rotate_left
                   ·simp only [Act.put, q1_, q2_, q3_, i64_w, i32_w]
                    rfl
                   refine pure_ (i := 7) (N := some 97) (v := ?_) (a' := ?_) #[true, false, true, true, true, true, true, true, false, false, false, false, false, false] rfl rfl (any_of HT_.out (by kernel_rfl)) (fun _ _ _ h => h) (Or.inl ⟨by rfl, ?_⟩) ?_ ?_
                   rotate_left
                   ·intro w'
                    go_simp
                    with_reducible rfl
                   rotate_left
                   ·simp only [Act.put, q1_, q2_, q3_, i64_w, i32_w]
                    rfl
                   refine pure_ (i := 9) (N := some 99) (v := ?_) (a' := ?_) #[true, false, true, true, true, true, true, true, false, true, false, false, false, false] rfl rfl (any_of HT_.out (by kernel_rfl)) (fun _ _ _ h => h) (Or.inl ⟨by rfl, ?_⟩) ?_ ?_
                   rotate_left
                   ·intro w'
                    go_simp
                    with_reducible rfl
                   rotate_left
                   ·simp only [Act.put, q1_, q2_, q3_, i64_w, i32_w]
                    rfl
                   refine take_ (i := 1) (N := some 91) (v := ?_) (a' := ?_) #[true, true, true, true, true, true, true, true, false, true, false, false, false, false] rfl rfl (take_ofW HT_.out HW_.out (by kernel_rfl)) (fun _ _ _ h => h) (Or.inl ⟨by rfl, ?_⟩) hHeld ?_ ?_
                   rotate_left
                   ·rintro w' ⟨s0, s1, s2, s3, s4, s5, s6, s7⟩
                    go_simp
                    with_reducible rfl
                   rotate_left
                   ·simp only [Act.put, q1_, q2_, q3_, i64_w, i32_w]
                    rfl
                   refine take_ (i := 8) (N := some 98) (v := ?_) (a' := ?_) #[true, true, true, true, true, true, true, true, true, true, false, false, false, false] rfl rfl (take_ofW HT_.out HW_.out (by kernel_rfl)) (fun _ _ _ h => h) (Or.inl ⟨by rfl, ?_⟩) hHeld ?_ ?_
                   rotate_left
                   ·rintro w' ⟨s0, s1, s2, s3, s4, s5, s6, s7⟩
                    go_simp
                    with_reducible rfl
                   rotate_left
                   ·simp only [Act.put, q1_, q2_, q3_, i64_w, i32_w]
                    rfl
                   refine pure_ (i := 10) (N := some 100) (v := ?_) (a' := ?_) #[true, true, true, true, true, true, true, true, true, true, true, false, false, false] rfl rfl (any_of HT_.out (by kernel_rfl)) (fun _ _ _ h => h) (Or.inl ⟨by rfl, ?_⟩) ?_ ?_
                   rotate_left
                   ·intro w'
                    go_simp
                    with_reducible rfl
                   rotate_left
                   ·simp only [Act.put, q1_, q2_, q3_, i64_w, i32_w]
                    rfl
                   refine take_ (i := 11) (N := some 101) (v := ?_) (a' := ?_) #[true, true, true, true, true, true, true, true, true, true, true, true, false, false] rfl rfl (take_ofW HT_.out HW_.out (by kernel_rfl)) (fun _ _ _ h => h) (Or.inl ⟨by rfl, ?_⟩) hHeld ?_ ?_
                   rotate_left
                   ·rintro w' ⟨s0, s1, s2, s3, s4, s5, s6, s7⟩
                    go_simp
                    with_reducible rfl
                   rotate_left
                   ·simp only [Act.put, q1_, q2_, q3_, i64_w, i32_w]
                    rfl
                   refine pure_ (i := 12) (N := some 102) (v := ?_) (a' := ?_) #[true, true, true, true, true, true, true, true, true, true, true, true, true, false] rfl rfl (any_of HT_.out (by kernel_rfl)) (fun _ _ _ h => h) (Or.inl ⟨by rfl, ?_⟩) ?_ ?_
                   rotate_left
                   ·intro w'
                    go_simp
                    with_reducible rfl
                   rotate_left
                   ·simp only [Act.put, q1_, q2_, q3_, i64_w, i32_w]
                    rfl
                   refine last_ (i := 13) (N := none) #[true, true, true, true, true, true, true, true, true, true, true, true, true, true] rfl rfl (one_of HT_.out (by kernel_rfl)) (by decide) (fun K hK => ?_)
                   refine skip_ (w1 := ?_) (by rfl) rfl ?_ ?_
                   rotate_left
                   ·go_simp
                    rfl
                   refine hK.out _ _ ?_
                   clear hK K
                   refine done_ (done_of HT_.out (by kernel_rfl)) ?_
                   try go_wp2
                   go_roundg kj34
                   case measure => have := HK1.out; have := HJ16.out; have := HK3.out; have := HJ34.out; omega
                   case rel => exact ⟨(wrap64 (x11_3 + 1)), (x123001_3), (y140), (u123001), (.slice (some ⟨go62, 0, none⟩) x123002_3.length co62), (by first | rfl | (simp; done) | (simp [*]; done)), H', ⟨by have := HK1.out; have := HJ16.out; have := HK3.out; have := HJ34.out; omega⟩, ⟨by (with_reducible repeat (first | apply Kd.S_alloc | apply Kd.S_drewN | apply Kd.S_drew)); exact Kd.S_mono (Kd.S_far (p := ⟨go62, (x11_3 : Int).toNat, none⟩) (Kd.S_mono HO_8.out (fun k_ hk => (⟨hk, fun e_ => hk.2 (by rw [e_]; rfl)⟩ : _ ∧ k_ ≠ go62))) (fun _ hk => hk.2) (.int .i64 (rd ((rd_T44 l1 x9_1).f0.f2) x11_3))) (fun _ hk => ⟨hk.1.1, hk.1.2⟩)⟩, ⟨by (with_reducible repeat (first | apply Kd.R_alloc | apply Kd.R_drewN | apply Kd.R_drew)); exact Kd.R_mono (Kd.R_far (p := ⟨go62, (x11_3 : Int).toNat, none⟩) (Kd.R_types HO_123001.out GG62.out (by decide)) (fun _ hk => hk.2) (.int .i64 (rd ((rd_T44 l1 x9_1).f0.f2) x11_3))) (fun _ hk => trivial)⟩, ⟨by (with_reducible repeat (first | apply Kd.R_alloc | apply Kd.R_drewN | apply Kd.R_drew)); exact HQ64.out⟩, ⟨by (with_reducible repeat (first | refine blk_drewN ?_ _ | refine blk_drew ?_ | refine blk_alloc ?_ _)); refine blk_far ?_ (by have h_ := Kd.R_ne HO_123002.out BK109.out (by decide); intro e_; exact h_ (by rw [e_]; rfl)) _; (with_reducible repeat (first | refine blk_drewN ?_ _ | refine blk_drew ?_ | refine blk_alloc ?_ _)); exact BK109.out⟩, ⟨by (with_reducible repeat (first | refine blk_drewN ?_ _ | refine blk_drew ?_ | refine blk_alloc ?_ _)); refine blk_far ?_ (by have h_ := Kd.R_ne HO_123002.out BK110.out (by decide); intro e_; exact h_ (by rw [e_]; rfl)) _; (with_reducible repeat (first | refine blk_drewN ?_ _ | refine blk_drew ?_ | refine blk_alloc ?_ _)); exact BK110.out⟩, ⟨by (with_reducible repeat (first | refine blk_drewN ?_ _ | refine blk_drew ?_ | refine blk_alloc ?_ _)); refine blk_far ?_ (by have h_ := Kd.R_ne HO_123002.out BK111.out (by decide); intro e_; exact h_ (by rw [e_]; rfl)) _; (with_reducible repeat (first | refine blk_drewN ?_ _ | refine blk_drew ?_ | refine blk_alloc ?_ _)); exact BK111.out⟩, ⟨by (with_reducible repeat (first | refine blk_drewN ?_ _ | refine blk_drew ?_ | refine blk_alloc ?_ _)); refine blk_far ?_ (by have h_ := Kd.R_ne HO_123002.out BK112.out (by decide); intro e_; exact h_ (by rw [e_]; rfl)) _; (with_reducible repeat (first | refine blk_drewN ?_ _ | refine blk_drew ?_ | refine blk_alloc ?_ _)); exact BK112.out⟩, ⟨by (with_reducible repeat (first | refine blk_drewN ?_ _ | refine blk_drew ?_ | refine blk_alloc ?_ _)); refine blk_far ?_ (by have h_ := Kd.R_ne HO_123002.out BK122.out (by decide); intro e_; exact h_ (by rw [e_]; rfl)) _; (with_reducible repeat (first | refine blk_drewN ?_ _ | refine blk_drew ?_ | refine blk_alloc ?_ _)); exact BK122.out⟩, ⟨by repeat (first | (with_reducible first | exact HB.out | apply below_alloc | apply pw_below_drewN | apply below_drew1 | refine below_set ?_ GB62.out | refine below_set ?_ GE109.out | refine below_set ?_ GE110.out | refine below_set ?_ GE111.out | refine below_set ?_ GE112.out | refine below_set ?_ GE122.out) | exact HB.out)⟩⟩
                  ·rw [if_neg c61] at H
                   exact absurd H (by simp)
                 ·rw [if_neg c60] at H
                  exact absurd H (by simp)
                ·rw [if_neg c59] at H
                 have c59b0 : decide (x11_3 < (((rd_T44 l1 x9_1).f0.f2).length : Int)) = false := decide_eq_false c59
                 clear c59
                 have H' := Aside0.mk H
                 clear H
                 have p137 : 0 ≤ (x9_1 : Int) := of_decide_eq_true (by assumption)
                 have q137 : x9_1 < (l1.length : Int) := of_decide_eq_true (by assumption)
                 obtain ⟨ad137, A137_1, c137_1, A137_2, c137_2, e137, hx137_0, hx137_1, hx137_2, hx137_3, hl137_1, hi137_1, hl137_2, hi137_2⟩ := at_T44 HR1.out x9_1 p137 q137
                 obtain rfl : ad115 = ad137 := (by injection e137)
                 replace hx137_0 := pw_cell_below HB.out hx137_0
                 replace hx137_1 := pw_cell_below HB.out hx137_1
                 replace hx137_2 := pw_cell_below HB.out hx137_2
                 replace hx137_3 := pw_cell_below HB.out hx137_3
                 have HR137_1 := Aside0.mk hi137_1
                 have HC137_1 := Aside0.mk hl137_1
                 clear hi137_1 hl137_1
                 have HR137_2 := Aside0.mk hi137_2
                 have HC137_2 := Aside0.mk hl137_2
                 clear hi137_2 hl137_2
                 replace p137 := eq_true p137
                 replace q137 := eq_true q137
                 go_wp2
                 go_roundg kj34
                 case measure => have := HK1.out; have := HJ16.out; have := HK3.out; have := HJ34.out; omega
                 case rel => exact ⟨(wrap64 (x11_3 + 1)), (x123001_3), (x123002_3), (u123001), (u123002), (by first | rfl | (simp; done) | (simp [*]; done)), H', ⟨by have := HK1.out; have := HJ16.out; have := HK3.out; have := HJ34.out; omega⟩, ⟨by (with_reducible repeat (first | apply Kd.S_alloc | apply Kd.S_drewN | apply Kd.S_drew)); exact HO_8.out⟩, ⟨by (with_reducible repeat (first | apply Kd.R_alloc | apply Kd.R_drewN | apply Kd.R_drew)); exact HO_123001.out⟩, ⟨by (with_reducible repeat (first | apply Kd.R_alloc | apply Kd.R_drewN | apply Kd.R_drew)); exact HO_123002.out⟩, ⟨by (with_reducible repeat (first | refine blk_drewN ?_ _ | refine blk_drew ?_ | refine blk_alloc ?_ _)); exact BK109.out⟩, ⟨by (with_reducible repeat (first | refine blk_drewN ?_ _ | refine blk_drew ?_ | refine blk_alloc ?_ _)); exact BK110.out⟩, ⟨by (with_reducible repeat (first | refine blk_drewN ?_ _ | refine blk_drew ?_ | refine blk_alloc ?_ _)); exact BK111.out⟩, ⟨by (with_reducible repeat (first | refine blk_drewN ?_ _ | refine blk_drew ?_ | refine blk_alloc ?_ _)); exact BK112.out⟩, ⟨by (with_reducible repeat (first | refine blk_drewN ?_ _ | refine blk_drew ?_ | refine blk_alloc ?_ _)); exact BK122.out⟩, ⟨by repeat (first | (with_reducible first | exact HB.out | apply below_alloc | apply pw_below_drewN | apply below_drew1 | refine below_set ?_ GE109.out | refine below_set ?_ GE110.out | refine below_set ?_ GE111.out | refine below_set ?_ GE112.out | refine below_set ?_ GE122.out) | exact HB.out)⟩⟩
               ·rw [if_neg c58] at H
                exact absurd H (by simp)
              ·rw [if_neg c57] at H
               exact absurd H (by simp)
          ·rw [if_neg c34] at H
           have c34b0 : decide (x11_3 < 2) = false := decide_eq_false c34
           clear c34
           by_cases c65 : 0 ≤ x9_1
           ·rw [if_pos c65] at H
            have c65b0 : decide (0 ≤ x9_1) = true := decide_eq_true c65
            clear c65
            by_cases c66 : x9_1 < (l1.length : Int)
            ·rw [if_pos c66] at H
             have c66b0 : decide (x9_1 < (l1.length : Int)) = true := decide_eq_true c66
             clear c66
             by_cases c67 : x8_1.length < 2199023255552
             ·rw [if_pos c67] at H
              have LMc67 := Aside0.mk c67
              clear c67
              obtain ⟨y124, hy124⟩ : ∃ y_ : List (S44), y_ = (x8_1 ++ [(⟨(⟨((rd_T44 l1 x9_1).f0.f0), x123001_3, x123002_3⟩ : S42), Int.tmod ((rd_T44 l1 x9_1).f1) 1125899906842624⟩ : S44)]) := ⟨_, rfl⟩
              replace H : (gristmilllaw06_right.l0 k3 l1 y124 (wrap64 (x9_1 + 1)) (wrap64 (1 + (Int.tmod t113 5))) (Int.tmod t114 2) 2 2) = some (r1, r2, r3, r4, r5) := by first | (rw [hy124]; with_reducible exact H) | (have H2_ := (Option.bind_some _ _).symm.trans H; rw [hy124]; with_reducible exact H2_) | (have H2_ := (Option.bind_some _ _).symm.trans H; with_reducible exact H2_) | with_reducible exact H | (rw [hy124]; exact H) | exact H
              have Ny124 := Aside0.mk hy124
              clear hy124
              have H' := Aside0.mk H
              clear H
              try go_wp2
              have n0_ := Aside0.mk (Kd.S_drew HO_8.out)
              have n1_ := Aside0.mk (Kd.R_drew HO_123001.out)
              have n2_ := Aside0.mk (Kd.R_drew HO_123002.out)
              have n3_ := Aside0.mk (blk_drew BK109.out)
              have n4_ := Aside0.mk (blk_drew BK110.out)
              have n5_ := Aside0.mk (blk_drew BK111.out)
              have n6_ := Aside0.mk (blk_drew BK112.out)
              have n7_ := Aside0.mk (blk_drew BK122.out)
              have n8_ := Aside0.mk (below_drew1 HB.out)
              clear HO_8
              clear HO_123001
              clear HO_123002
              clear BK109
              clear BK110
              clear BK111
              clear BK112
              clear BK122
              clear HB
              have HO_8 := n0_
              have HO_123001 := n1_
              have HO_123002 := n2_
              have BK109 := n3_
              have BK110 := n4_
              have BK111 := n5_
              have BK112 := n6_
              have BK122 := n7_
              have HB := n8_
              clear n0_ n1_ n2_ n3_ n4_ n5_ n6_ n7_ n8_
              have p123 : 0 ≤ (x9_1 : Int) := of_decide_eq_true (by assumption)
              have q123 : x9_1 < (l1.length : Int) := of_decide_eq_true (by assumption)
              obtain ⟨ad123, A123_1, c123_1, A123_2, c123_2, e123, hx123_0, hx123_1, hx123_2, hx123_3, hl123_1, hi123_1, hl123_2, hi123_2⟩ := at_T44 HR1.out x9_1 p123 q123
              have hw123_3 := hx123_3
              have hw123_2 := hx123_2
              have hw123_1 := hx123_1
              have hw123_0 := hx123_0
              obtain rfl : ad115 = ad123 := (by injection e123)
              replace hx123_0 := pw_cell_below HB.out hx123_0
              replace hx123_1 := pw_cell_below HB.out hx123_1
              replace hx123_2 := pw_cell_below HB.out hx123_2
              replace hx123_3 := pw_cell_below HB.out hx123_3
              have HR123_1 := Aside0.mk hi123_1
              have HC123_1 := Aside0.mk hl123_1
              clear hi123_1 hl123_1
              have HR123_2 := Aside0.mk hi123_2
              have HC123_2 := Aside0.mk hl123_2
              clear hi123_2 hl123_2
              replace p123 := eq_true p123
              replace q123 := eq_true q123
              obtain ⟨Ao69, co69, eo69⟩ := Kd.R_slice HO_123002.out
              (first | subst eo69 | (injection eo69 with f1_ f2_ f3_; have f4_ := f1_.symm; have f5_ := f3_.symm; clear f1_ f2_ f3_; subst f4_; subst f5_))
              obtain ⟨Ao70, co70, eo70⟩ := Kd.R_slice HO_123001.out
              (first | subst eo70 | (injection eo70 with f1_ f2_ f3_; have f4_ := f1_.symm; have f5_ := f3_.symm; clear f1_ f2_ f3_; subst f4_; subst f5_))
              refine start_ (n := 12) (S := fun w' => w'.cell? ⟨gb122, 0, none⟩ = some (.int .i64 ((rd_T44 l1 x9_1).f0.f0)) ∧ w'.cell? ⟨gb122, 1, none⟩ = some (.slice Ao70 x123001_3.length co70) ∧ w'.cell? ⟨gb122, 2, none⟩ = some (.slice Ao69 x123002_3.length co69) ∧ w'.cell? (ad115.add ((x9_1).toNat * 4)) = some (.int .i64 ((rd_T44 l1 x9_1).f0.f0)) ∧ w'.cell? ⟨(ad115.add ((x9_1).toNat * 4)).block, (ad115.add ((x9_1).toNat * 4)).off + 1, none⟩ = some (.slice A123_1 ((rd_T44 l1 x9_1).f0.f1).length c123_1) ∧ w'.cell? ⟨(ad115.add ((x9_1).toNat * 4)).block, (ad115.add ((x9_1).toNat * 4)).off + 2, none⟩ = some (.slice A123_2 ((rd_T44 l1 x9_1).f0.f2).length c123_2) ∧ w'.cell? ⟨(ad115.add ((x9_1).toNat * 4)).block, (ad115.add ((x9_1).toNat * 4)).off + 3, none⟩ = some (.int .u64 ((rd_T44 l1 x9_1).f1))) (ds := []) #[false, false, false, false, false, false, false, false, false, false, false, false] (by kernel_rfl) rfl rfl ⟨(blk_cell BK122.out 0).trans rfl, (blk_cell BK122.out 1).trans rfl, (blk_cell BK122.out 2).trans rfl, (pw_cell_below HB.out hw123_0), (pw_cell_below HB.out hw123_1), (pw_cell_below HB.out hw123_2), (pw_cell_below HB.out hw123_3)⟩ (fun hHeld => ?_); refine with_tabW gristmilllaw06_right.tab15 gristmilllaw06_right.bits15 (fun HT_ HW_ => ?_)
              generalize wr.drew = w68 at HO_8 HO_123001 HO_123002 BK109 BK110 BK111 BK112 BK122 HB HR123_1 HR123_2 hx123_0 hx123_1 hx123_2 hx123_3 hHeld ⊢
              refine pure_ (i := 0) (N := some 103) (v := ?_) (a' := ?_) #[true, false, false, false, false, false, false, false, false, false, false, false] rfl rfl (any_of HT_.out (by kernel_rfl)) (fun _ _ _ h => h) (Or.inl ⟨by rfl, ?_⟩) ?_ ?_
              rotate_left
              ·intro w'
               go_simp
               with_reducible rfl
              rotate_left
              ·simp only [Act.put, q1_, q2_, q3_, i64_w, i32_w]
               rfl
              refine pure_ (i := 2) (N := some 105) (v := ?_) (a' := ?_) #[true, false, true, false, false, false, false, false, false, false, false, false] rfl rfl (any_of HT_.out (by kernel_rfl)) (fun _ _ _ h => h) (Or.inl ⟨by rfl, ?_⟩) ?_ ?_
              rotate_left
              ·intro w'
               go_simp
               with_reducible rfl
              rotate_left
              ·simp only [Act.put, q1_, q2_, q3_, i64_w, i32_w]
               rfl
              refine pure_ (i := 3) (N := some 106) (v := ?_) (a' := ?_) #[true, false, true, true, false, false, false, false, false, false, false, false] rfl rfl (any_of HT_.out (by kernel_rfl)) (fun _ _ _ h => h) (Or.inl ⟨by rfl, ?_⟩) ?_ ?_
              rotate_left
              ·intro w'
               go_simp
               with_reducible rfl
              rotate_left
              ·simp only [Act.put, q1_, q2_, q3_, i64_w, i32_w]
               rfl
              refine pure_ (i := 4) (N := some 107) (v := ?_) (a' := ?_) #[true, false, true, true, true, false, false, false, false, false, false, false] rfl rfl (any_of HT_.out (by kernel_rfl)) (fun _ _ _ h => h) (Or.inl ⟨by rfl, ?_⟩) ?_ ?_
              rotate_left
              ·intro w'
               go_simp
               with_reducible rfl
              rotate_left
              ·simp only [Act.put, q1_, q2_, q3_, i64_w, i32_w]
               rfl
              refine pure_ (i := 5) (N := some 108) (v := ?_) (a' := ?_) #[true, false, true, true, true, true, false, false, false, false, false, false] rfl rfl (any_of HT_.out (by kernel_rfl)) (fun _ _ _ h => h) (Or.inl ⟨by rfl, ?_⟩) ?_ ?_
              rotate_left
              ·intro w'
               go_simp
               with_reducible rfl
              rotate_left
              ·simp only [Act.put, q1_, q2_, q3_, i64_w, i32_w]
               rfl
              refine take_ (i := 1) (N := some 104) (v := ?_) (a' := ?_) #[true, true, true, true, true, true, false, false, false, false, false, false] rfl rfl (take_ofW HT_.out HW_.out (by kernel_rfl)) (fun _ _ _ h => h) (Or.inl ⟨by rfl, ?_⟩) hHeld ?_ ?_
              rotate_left
              ·rintro w' ⟨s0, s1, s2, s3, s4, s5, s6⟩
               go_simp
               with_reducible rfl
              rotate_left
              ·simp only [Act.put, q1_, q2_, q3_, i64_w, i32_w]
               rfl
              refine take_ (i := 6) (N := some 109) (v := ?_) (a' := ?_) #[true, true, true, true, true, true, true, false, false, false, false, false] rfl rfl (take_ofW HT_.out HW_.out (by kernel_rfl)) (fun _ _ _ h => h) (Or.inl ⟨by rfl, ?_⟩) hHeld ?_ ?_
              rotate_left
              ·rintro w' ⟨s0, s1, s2, s3, s4, s5, s6⟩
               go_simp
               with_reducible rfl
              rotate_left
              ·simp only [Act.put, q1_, q2_, q3_, i64_w, i32_w]
               rfl
              refine pure_ (i := 7) (N := some 110) (v := ?_) (a' := ?_) #[true, true, true, true, true, true, true, true, false, false, false, false] rfl rfl (any_of HT_.out (by kernel_rfl)) (fun _ _ _ h => h) (Or.inl ⟨by rfl, ?_⟩) ?_ ?_
              rotate_left
              ·intro w'
               go_simp
               with_reducible rfl
              rotate_left
              ·simp only [Act.put, q1_, q2_, q3_, i64_w, i32_w]
               rfl
              refine pure_ (i := 8) (N := some 111) (v := ?_) (a' := ?_) #[true, true, true, true, true, true, true, true, true, false, false, false] rfl rfl (any_of HT_.out (by kernel_rfl)) (fun _ _ _ h => h) (Or.inl ⟨by rfl, ?_⟩) ?_ ?_
              rotate_left
              ·intro w'
               go_simp
               with_reducible rfl
              rotate_left
              ·simp only [Act.put, q1_, q2_, q3_, i64_w, i32_w]
               rfl
              refine one_ (i := 9) (N := some 112) #[true, true, true, true, true, true, true, true, true, true, false, false] rfl rfl (one_of HT_.out (by kernel_rfl)) (by decide) (fun K hK => ?_)
              refine value_ (w1 := ?_) (v := ?_) (by rfl) rfl ?_ ?_
              rotate_left 2
              ·go_simp
               constructor
               ·rfl
               ·rfl
              refine hK.out _ _ ⟨(blk_cell (blk_alloc BK122.out _) 0).trans rfl, (blk_cell (blk_alloc BK122.out _) 1).trans rfl, (blk_cell (blk_alloc BK122.out _) 2).trans rfl, (World.cell?_alloc_lt _ _ _ (World.block_lt_of_cell? _ _ ((pw_cell_below HB.out hw123_0)))).trans ((pw_cell_below HB.out hw123_0)), (World.cell?_alloc_lt _ _ _ (World.block_lt_of_cell? _ _ ((pw_cell_below HB.out hw123_1)))).trans ((pw_cell_below HB.out hw123_1)), (World.cell?_alloc_lt _ _ _ (World.block_lt_of_cell? _ _ ((pw_cell_below HB.out hw123_2)))).trans ((pw_cell_below HB.out hw123_2)), (World.cell?_alloc_lt _ _ _ (World.block_lt_of_cell? _ _ ((pw_cell_below HB.out hw123_3)))).trans ((pw_cell_below HB.out hw123_3))⟩ (fun hHeld => ?_)
              clear hK K
              refine norm_ (a' := ?_) ?_ ?_
              rotate_left
              ·show Act.put _ (some 112) _ = _
               simp only [Act.put, q1_, q2_, q3_, i64_w, i32_w]
               rfl
              refine one_ (i := 10) (N := some 113) #[true, true, true, true, true, true, true, true, true, true, true, false] rfl rfl (one_of HT_.out (by kernel_rfl)) (by decide) (fun K hK => ?_)
              refine Kd.S_append_step k44 (w0 := w) w.heap.size (by rfl) (.tmp 103) (.tmp 112) 24 44 (.agg #[(.int .i64 0), (.slice none 0 0), (.slice none 0 0), (.int .u64 0)]) 64 rfl Try.underlying24 info44 rfl (by decide) (by omega) u8 x8_1 (⟨(⟨((rd_T44 l1 x9_1).f0.f0), x123001_3, x123002_3⟩ : S42), Int.tmod ((rd_T44 l1 x9_1).f1) 1125899906842624⟩ : S44) [.int .i64 ((rd_T44 l1 x9_1).f0.f0), .slice Ao70 x123001_3.length co70, .slice Ao69 x123002_3.length co69, .int .u64 (Int.tmod ((rd_T44 l1 x9_1).f1) 1125899906842624)] (fun _ => True) (fun k_ => some k_ = (.slice Ao70 x123001_3.length co70 : Value).ownBlock ∨ some k_ = (.slice Ao69 x123002_3.length co69 : Value).ownBlock) rfl rfl ?aP (fun k_ hk_ => hk_.elim (fun h_ => ((Kd.R_mono (ok' := fun k_ => ((fun _ => True)) k_ ∧ some k_ ≠ (u8 : Value).ownBlock) (Kd.R_apart' (HO_123001.out) (Kd.S_typed HO_8.out) (by decide)) (fun k_ hk => ⟨trivial, hk.2⟩))).1 k_ h_.symm) (fun h_ => ((Kd.R_mono (ok' := fun k_ => ((fun _ => True)) k_ ∧ some k_ ≠ (u8 : Value).ownBlock) (Kd.R_apart' (HO_123002.out) (Kd.S_typed HO_8.out) (by decide)) (fun k_ hk => ⟨trivial, hk.2⟩))).1 k_ h_.symm)) ?aF ?aO ?aB ?aS ?aL ?_
              (case aP => exact k44_mkM _ _ _ (⟨(⟨((rd_T44 l1 x9_1).f0.f0), x123001_3, x123002_3⟩ : S42), Int.tmod ((rd_T44 l1 x9_1).f1) 1125899906842624⟩ : S44) (Kd.R_mono (Kd.R_tight rfl (Kd.R_mono (ok' := fun k_ => ((fun _ => True)) k_ ∧ some k_ ≠ (u8 : Value).ownBlock) (Kd.R_apart' (HO_123001.out) (Kd.S_typed HO_8.out) (by decide)) (fun k_ hk => ⟨trivial, hk.2⟩))) (fun _ h_ => Or.inl h_)) (Kd.R_mono (Kd.R_tight rfl (Kd.R_mono (ok' := fun k_ => ((fun _ => True)) k_ ∧ some k_ ≠ (u8 : Value).ownBlock) (Kd.R_apart' (HO_123002.out) (Kd.S_typed HO_8.out) (by decide)) (fun k_ hk => ⟨trivial, hk.2⟩))) (fun _ h_ => Or.inr (h_))))
              (case aB => exact (bw_ HB.out))
              (case aF => exact (fun _ _ => trivial))
              (case aO => exact (by (with_reducible repeat (first | apply Kd.S_alloc | apply Kd.S_drewN | apply Kd.S_drew)); exact Kd.S_mono HO_8.out (fun k_ hk => ⟨trivial, fun e_ => e_.elim (fun h_ => hk.1 h_) (fun h_ => hk.2 h_)⟩)))
              (case aS => exact (below_size (bw_ HB.out)))
              (case aL => have := LMc67.out; omega)
              intro v125 w71 ho hb hg hat
              rw [← Ny124.out] at ho
              have n0_ := Aside0.mk (blk_grown (g := gb109) (o := .cells #[.int .i64 (wrap64 (1 + (Int.tmod t113 5))), .int .i64 (Int.tmod t114 2)] 23 (0, 0)) (bk_ BK109.out) hg (Kd.S_ne HO_8.out BK109.out (by decide)))
              have n1_ := Aside0.mk (blk_grown (g := gb110) (o := .cells #[.int .i64 0, .int .i64 0] 27 (0, 0)) (bk_ BK110.out) hg (Kd.S_ne HO_8.out BK110.out (by decide)))
              have n2_ := Aside0.mk (blk_grown (g := gb111) (o := .cells #[.int .i64 0, .int .i64 0] 23 (0, 0)) (bk_ BK111.out) hg (Kd.S_ne HO_8.out BK111.out (by decide)))
              have n3_ := Aside0.mk (blk_grown (g := gb112) (o := .cells #[.int .i64 2, .int .i64 2] 27 (0, 0)) (bk_ BK112.out) hg (Kd.S_ne HO_8.out BK112.out (by decide)))
              have n4_ := Aside0.mk (blk_grown (g := gb122) (o := .cells #[.int .i64 ((rd_T44 l1 x9_1).f0.f0), .slice Ao70 x123001_3.length co70, .slice Ao69 x123002_3.length co69] 42 (0, 0)) (bk_ BK122.out) hg (Kd.S_ne HO_8.out BK122.out (by decide)))
              have n5_ := Aside0.mk (hb)
              have n6_ := Aside0.mk (ho)
              clear BK109
              clear BK110
              clear BK111
              clear BK112
              clear BK122
              clear HB
              clear HO_8
              clear HO_123001
              clear HO_123002
              have BK109 := n0_
              have BK110 := n1_
              have BK111 := n2_
              have BK112 := n3_
              have BK122 := n4_
              have HB := n5_
              have HO126 := n6_
              clear n0_ n1_ n2_ n3_ n4_ n5_ n6_
              clear ho hb hg hat
              refine hK.out _ _ ⟨(blk_cell BK122.out 0).trans rfl, (blk_cell BK122.out 1).trans rfl, (blk_cell BK122.out 2).trans rfl, (pw_cell_below HB.out hw123_0), (pw_cell_below HB.out hw123_1), (pw_cell_below HB.out hw123_2), (pw_cell_below HB.out hw123_3)⟩ (fun hHeld => ?_)
              clear hK K
              refine norm_ (a' := ?_) ?_ ?_
              rotate_left
              ·show Act.put _ (some 113) _ = _
               simp only [Act.put, q1_, q2_, q3_, i64_w, i32_w]
               rfl
              refine pure_ (i := 11) (N := some 8) (v := ?_) (a' := ?_) #[true, true, true, true, true, true, true, true, true, true, true, true] rfl rfl (any_of HT_.out (by kernel_rfl)) (fun _ _ _ h => h) (Or.inl ⟨by rfl, ?_⟩) ?_ ?_
              rotate_left
              ·intro w'
               go_simp
               with_reducible rfl
              rotate_left
              ·simp only [Act.put, q1_, q2_, q3_, i64_w, i32_w]
               rfl
              refine done_ (done_of HT_.out (by kernel_rfl)) ?_
              try go_wp2
              go_roundg k3
              case measure => have := HK1.out; have := HJ16.out; have := HK3.out; omega
              case rel => exact ⟨(y124), (wrap64 (x9_1 + 1)), (by first | rfl | (simp; done) | (simp [*]; done)), H', ⟨by have := HK1.out; have := HJ16.out; have := HK3.out; omega⟩, ⟨by (with_reducible repeat (first | apply Kd.S_alloc | apply Kd.S_drewN | apply Kd.S_drew)); exact HO126.out⟩, ⟨by (with_reducible repeat (first | refine blk_drewN ?_ _ | refine blk_drew ?_ | refine blk_alloc ?_ _)); exact BK109.out⟩, ⟨by (with_reducible repeat (first | refine blk_drewN ?_ _ | refine blk_drew ?_ | refine blk_alloc ?_ _)); exact BK110.out⟩, ⟨by (with_reducible repeat (first | refine blk_drewN ?_ _ | refine blk_drew ?_ | refine blk_alloc ?_ _)); exact BK111.out⟩, ⟨by (with_reducible repeat (first | refine blk_drewN ?_ _ | refine blk_drew ?_ | refine blk_alloc ?_ _)); exact BK112.out⟩, ⟨by repeat (first | (with_reducible first | exact HB.out | apply below_alloc | apply pw_below_drewN | apply below_drew1 | refine below_set ?_ GE109.out | refine below_set ?_ GE110.out | refine below_set ?_ GE111.out | refine below_set ?_ GE112.out | refine below_set ?_ GE122.out) | exact HB.out)⟩⟩
             ·rw [if_neg c67] at H
              exact absurd H (by simp)
            ·rw [if_neg c66] at H
             exact absurd H (by simp)
           ·rw [if_neg c65] at H
            exact absurd H (by simp)
       ·rw [if_neg c21] at H
        exact absurd H (by simp)
      ·rw [if_neg c20] at H
       exact absurd H (by simp)
     ·replace c19 := Bool.eq_false_iff.mpr c19
      subst c19
      have H1 : (some (2, 2, (wrap64 (1 + (Int.tmod t113 5))), (Int.tmod t114 2), x8_1)) = some (r1, r2, r3, r4, r5) := by rw [if_neg (show ¬ (false = true) by decide)] at H; exact H
      clear H
      have H := H1
      clear H1
      simp only [Option.some.injEq, Prod.mk.injEq] at H
      obtain ⟨rfl, rfl, rfl, rfl, rfl⟩ := H
      try go_wp2
      have n0_ := Aside0.mk (Kd.S_drew HO_8.out)
      have n1_ := Aside0.mk (blk_drew BK109.out)
      have n2_ := Aside0.mk (blk_drew BK110.out)
      have n3_ := Aside0.mk (blk_drew BK111.out)
      have n4_ := Aside0.mk (blk_drew BK112.out)
      have n5_ := Aside0.mk (below_drew1 HB.out)
      clear HO_8
      clear BK109
      clear BK110
      clear BK111
      clear BK112
      clear HB
      have HO_8 := n0_
      have BK109 := n1_
      have BK110 := n2_
      have BK111 := n3_
      have BK112 := n4_
      have HB := n5_
      clear n0_ n1_ n2_ n3_ n4_ n5_
      refine start_ (n := 6) (S := fun w' => w'.cell? ⟨gb112, 0, none⟩ = some (.int .i64 2) ∧ w'.cell? ⟨gb112, 1, none⟩ = some (.int .i64 2) ∧ w'.cell? ⟨gb109, 0, none⟩ = some (.int .i64 (wrap64 (1 + (Int.tmod t113 5)))) ∧ w'.cell? ⟨gb109, 1, none⟩ = some (.int .i64 (Int.tmod t114 2))) (ds := []) #[false, false, false, false, false, false] (by kernel_rfl) rfl rfl ⟨(blk_cell BK112.out 0).trans rfl, (blk_cell BK112.out 1).trans rfl, (blk_cell BK109.out 0).trans rfl, (blk_cell BK109.out 1).trans rfl⟩ (fun hHeld => ?_)
      generalize wc.drew = w72 at HO_8 BK109 BK110 BK111 BK112 HB hHeld ⊢
      refine pure_ (i := 2) (N := some 116) (v := ?_) (a' := ?_) #[false, false, true, false, false, false] rfl rfl (by kernel_rfl) (fun _ _ _ h => h) (Or.inl ⟨by rfl, ?_⟩) ?_ ?_
      rotate_left
      ·intro w'
       go_simp
       with_reducible rfl
      rotate_left
      ·simp only [Act.put, q1_, q2_, q3_, i64_w, i32_w]
       rfl
      refine take_ (i := 0) (N := some 114) (v := ?_) (a' := ?_) #[true, false, true, false, false, false] rfl rfl (by kernel_rfl) (fun _ _ _ h => h) (Or.inl ⟨by rfl, ?_⟩) hHeld ?_ ?_
      rotate_left
      ·rintro w' ⟨s0, s1, s2, s3⟩
       go_simp
       with_reducible rfl
      rotate_left
      ·simp only [Act.put, q1_, q2_, q3_, i64_w, i32_w]
       rfl
      refine take_ (i := 1) (N := some 115) (v := ?_) (a' := ?_) #[true, true, true, false, false, false] rfl rfl (by kernel_rfl) (fun _ _ _ h => h) (Or.inl ⟨by rfl, ?_⟩) hHeld ?_ ?_
      rotate_left
      ·rintro w' ⟨s0, s1, s2, s3⟩
       go_simp
       with_reducible rfl
      rotate_left
      ·simp only [Act.put, q1_, q2_, q3_, i64_w, i32_w]
       rfl
      refine one_ (i := 3) (N := none) #[true, true, true, true, false, false] rfl rfl (by kernel_rfl) (by decide) (fun K hK => ?_)
      have hs73 : w72.cell? ⟨gb110, 0, none⟩ = some (.int .i64 0) := (blk_cell BK110.out 0).trans rfl
      have hfs73 := blk_frozen BK110.out 0
      have hns73_0 := NB109_110.out
      have hns73_2 := NB111_110.out
      have hns73_3 := NB112_110.out
      have hms73_0 := NB110_109.out
      have hms73_2 := NB110_111.out
      have hms73_3 := NB110_112.out
      have hs74 : w72.cell? ⟨gb110, 1, none⟩ = some (.int .i64 0) := (blk_cell BK110.out 1).trans rfl
      have hfs74 := blk_frozen BK110.out 1
      have hns74_0 := NB109_110.out
      have hns74_2 := NB111_110.out
      have hns74_3 := NB112_110.out
      have hms74_0 := NB110_109.out
      have hms74_2 := NB110_111.out
      have hms74_3 := NB110_112.out
      refine skip_ (w1 := ?_) (by rfl) rfl ?_ ?_
      rotate_left
      ·go_simp
       rfl
      refine hK.out _ _ ⟨((cell_far (p := ⟨gb110, _, none⟩) NB112_110.out _).trans (((cell_far (p := ⟨gb110, _, none⟩) NB112_110.out _).trans (hHeld.1)))), ((cell_far (p := ⟨gb110, _, none⟩) NB112_110.out _).trans (((cell_far (p := ⟨gb110, _, none⟩) NB112_110.out _).trans (hHeld.2.1)))), ((cell_far (p := ⟨gb110, _, none⟩) NB109_110.out _).trans (((cell_far (p := ⟨gb110, _, none⟩) NB109_110.out _).trans (hHeld.2.2.1)))), ((cell_far (p := ⟨gb110, _, none⟩) NB109_110.out _).trans (((cell_far (p := ⟨gb110, _, none⟩) NB109_110.out _).trans (hHeld.2.2.2))))⟩ (fun hHeld => ?_)
      clear hK K
      refine one_ (i := 4) (N := none) #[true, true, true, true, true, false] rfl rfl (by kernel_rfl) (by decide) (fun K hK => ?_)
      have hs75 : w72.cell? ⟨gb111, 0, none⟩ = some (.int .i64 0) := (blk_cell BK111.out 0).trans rfl
      have hfs75 := blk_frozen BK111.out 0
      have hns75_0 := NB109_111.out
      have hns75_1 := NB110_111.out
      have hns75_3 := NB112_111.out
      have hms75_0 := NB111_109.out
      have hms75_1 := NB111_110.out
      have hms75_3 := NB111_112.out
      have hs76 : w72.cell? ⟨gb111, 1, none⟩ = some (.int .i64 0) := (blk_cell BK111.out 1).trans rfl
      have hfs76 := blk_frozen BK111.out 1
      have hns76_0 := NB109_111.out
      have hns76_1 := NB110_111.out
      have hns76_3 := NB112_111.out
      have hms76_0 := NB111_109.out
      have hms76_1 := NB111_110.out
      have hms76_3 := NB111_112.out
      refine skip_ (w1 := ?_) (by rfl) rfl ?_ ?_
      rotate_left
      ·go_simp
       rfl
      refine hK.out _ _ ⟨((cell_far (p := ⟨gb111, _, none⟩) NB112_111.out _).trans (((cell_far (p := ⟨gb111, _, none⟩) NB112_111.out _).trans (hHeld.1)))), ((cell_far (p := ⟨gb111, _, none⟩) NB112_111.out _).trans (((cell_far (p := ⟨gb111, _, none⟩) NB112_111.out _).trans (hHeld.2.1)))), ((cell_far (p := ⟨gb111, _, none⟩) NB109_111.out _).trans (((cell_far (p := ⟨gb111, _, none⟩) NB109_111.out _).trans (hHeld.2.2.1)))), ((cell_far (p := ⟨gb111, _, none⟩) NB109_111.out _).trans (((cell_far (p := ⟨gb111, _, none⟩) NB109_111.out _).trans (hHeld.2.2.2))))⟩ (fun hHeld => ?_)
      clear hK K
      refine pure_ (i := 5) (N := some 6) (v := ?_) (a' := ?_) #[true, true, true, true, true, true] rfl rfl (by kernel_rfl) (fun _ _ _ h => h) (Or.inl ⟨by rfl, ?_⟩) ?_ ?_
      rotate_left
      ·intro w'
       go_simp
       with_reducible rfl
      rotate_left
      ·simp only [Act.put, q1_, q2_, q3_, i64_w, i32_w]
       rfl
      refine done_ (by kernel_rfl) ?_
      try go_wp2
      refine bodyPost_ret (results_list (rs := [.cell 4 27, .cell 5 23, .tmp 6]) rfl (by simp) (.cell gb110 27 #[.int .i64 2, .int .i64 2] (0, 0) _ rfl (by (with_reducible repeat (first | refine blk_drewN ?_ _ | refine blk_drew ?_ | refine blk_alloc ?_ _)); refine blk_far ?_ NB110_111.out _; (with_reducible repeat (first | refine blk_drewN ?_ _ | refine blk_drew ?_ | refine blk_alloc ?_ _)); refine blk_far ?_ NB110_111.out _; (with_reducible repeat (first | refine blk_drewN ?_ _ | refine blk_drew ?_ | refine blk_alloc ?_ _)); refine blk_put (cs := #[.int .i64 2, .int .i64 0]) ?_ 1 _ rfl; (with_reducible repeat (first | refine blk_drewN ?_ _ | refine blk_drew ?_ | refine blk_alloc ?_ _)); refine blk_put (cs := #[.int .i64 0, .int .i64 0]) ?_ 0 _ rfl; (with_reducible repeat (first | refine blk_drewN ?_ _ | refine blk_drew ?_ | refine blk_alloc ?_ _)); exact BK110.out) Try.underlying27 rfl (by kernel_rfl) (.cell gb111 23 #[.int .i64 (wrap64 (1 + (Int.tmod t113 5))), .int .i64 (Int.tmod t114 2)] (0, 0) _ rfl (by (with_reducible repeat (first | refine blk_drewN ?_ _ | refine blk_drew ?_ | refine blk_alloc ?_ _)); refine blk_put (cs := #[.int .i64 (wrap64 (1 + (Int.tmod t113 5))), .int .i64 0]) ?_ 1 _ rfl; (with_reducible repeat (first | refine blk_drewN ?_ _ | refine blk_drew ?_ | refine blk_alloc ?_ _)); refine blk_put (cs := #[.int .i64 0, .int .i64 0]) ?_ 0 _ rfl; (with_reducible repeat (first | refine blk_drewN ?_ _ | refine blk_drew ?_ | refine blk_alloc ?_ _)); refine blk_far ?_ NB111_110.out _; (with_reducible repeat (first | refine blk_drewN ?_ _ | refine blk_drew ?_ | refine blk_alloc ?_ _)); refine blk_far ?_ NB111_110.out _; (with_reducible repeat (first | refine blk_drewN ?_ _ | refine blk_drew ?_ | refine blk_alloc ?_ _)); exact BK111.out) Try.underlying23 rfl (by kernel_rfl) (.tmp .nil)))) rfl ?_
      exact ⟨_, by first | rfl | (simp [errW_none, errW_some] <;> rfl) | (simp [*, errW_none, errW_some] <;> rfl), by (with_reducible repeat (first | apply Kd.S_alloc | apply Kd.S_drewN | apply Kd.S_drew)); exact Kd.S_mono (Kd.S_far (p := ⟨gb111, 1, none⟩) (Kd.S_far (p := ⟨gb111, 0, none⟩) (Kd.S_far (p := ⟨gb110, 1, none⟩) (Kd.S_far (p := ⟨gb110, 0, none⟩) (Kd.S_types (Kd.S_types HO_8.out BK110.out (by decide)) BK111.out (by decide)) (fun _ hk => hk.1.2) (.int .i64 2)) (fun _ hk => hk.1.2) (.int .i64 2)) (fun _ hk => hk.2) (.int .i64 (wrap64 (1 + (Int.tmod t113 5))))) (fun _ hk => hk.2) (.int .i64 (Int.tmod t114 2))) (fun _ hk => trivial), by repeat (first | (with_reducible first | exact HB.out | apply below_alloc | apply pw_below_drewN | apply below_drew1 | refine below_set ?_ GE109.out | refine below_set ?_ GE110.out | refine below_set ?_ GE111.out | refine below_set ?_ GE112.out) | exact HB.out)⟩
end Go.Proofs.Ytmjhgeinhhhodaa.P
end

section
namespace Go.Proofs.Ytmjhgeinhhhodaa.P
open Go.RowKit Go.Proofs.YtmjhgeinhhhodaaW.PrintWords Go.Proofs.YtmjhgeinhhhodaaW.PrintLast Go.Proofs.YtmjhgeinhhhodaaW.PrintMore
attribute [local go_sem] max2_int min2_int max_two min_two max_three min_three max_four min_four   -- for this text's walks alone
set_option linter.unusedVariables false
set_option linter.unusedSimpArgs false
open Go.Proofs.Ytmjhgeinhhhodaa.Ext (q1_ q2_ q3_ bk_ bw_ sz_ ne_ bx_)
attribute [local go_sem high] Go.Proofs.Ytmjhgeinhhhodaa.Ext.gtr_str Go.Proofs.Ytmjhgeinhhhodaa.Ext.leq_str Go.Proofs.Ytmjhgeinhhhodaa.Ext.geq_str
def agg_Start.f (a0_0 : Int) (a0_1 : Int) : Option (Int × Int × List ByteArray) := some (0, 0, ([] : List ByteArray))
set_option maxHeartbeats 8000000 in
set_option maxRecDepth 100000 in
theorem agg_Start.calls (a0_0 : Int) (a0_1 : Int) (r1 : Int) (r2 : Int) (r3 : List ByteArray) (w : World) (h : agg_Start.f a0_0 a0_1 = some (r1, r2, r3)) :
  Calls Try.prog 18 #[.agg #[.int .i64 a0_0, .int .i64 a0_1]] w fun e w' => ∃ v2_ : Value, e = .returned (.agg #[.int .u64 r1, .int .i64 r2, v2_]) ∧ Kd.R Kd.string 9 w' w.heap.size (fun _ => True) v2_ r3 ∧ Below w.heap.size w w' := by
 have hu23 := Try.underlying23
 have hu33 := Try.underlying33
 have HB := Aside0.mk (Below.refl w.heap.size w)
 have H : (some (0, 0, ([] : List ByteArray))) = some (r1, r2, r3) := h
 clear h
 simp only [Option.some.injEq, Prod.mk.injEq] at H
 obtain ⟨rfl, rfl, rfl⟩ := H
 go_enter Try.func18, Try.ntmps18
 go_wp2_with (first | ((with_reducible refine gate_dst (N := 1) rfl ?_); refine bx_ (N := 1) (cs := #[.int .i64 a0_0, .int .i64 a0_1]) (t := 23) ?_; intro gb141 hg w2 hbox hb; have n0_ := Aside0.mk (below_step (bw_ HB.out) hb); have n1_ := Aside0.mk (hbox); have n2_ := Aside0.mk (sz_ hg (bw_ HB.out)); have n3_ := n2_; clear HB; have HB := n0_; have BK141 := n1_; have GW141 := n2_; have GE141 := n3_; clear n0_ n1_ n2_ n3_; clear hb hbox hg) | ((with_reducible refine gate_dst (N := 2) rfl ?_); refine bx_ (N := 2) (cs := #[.int .u64 0, .int .i64 0, .slice none 0 0]) (t := 33) ?_; intro gb142 hg w3 hbox hb; have n0_ := Aside0.mk (blk_below (bk_ BK141.out) hb); have n1_ := Aside0.mk (below_step (bw_ HB.out) hb); have n2_ := Aside0.mk (hbox); have n3_ := Aside0.mk (sz_ hg (bw_ HB.out)); have n4_ := n3_; have n5_ := Aside0.mk (ne_ hg (blk_lt (bk_ BK141.out))); have n6_ := Aside0.mk n5_.out.symm; clear BK141 HB; have BK141 := n0_; have HB := n1_; have BK142 := n2_; have GW142 := n3_; have GE142 := n4_; have NB141_142 := n5_; have NB142_141 := n6_; clear n0_ n1_ n2_ n3_ n4_ n5_ n6_; clear hb hbox hg; have hnb4 := NB142_141.out; have hnc4 := NB141_142.out; have hcz5_0 : w3.cell? ⟨gb142, 0, none⟩ = some (.int .u64 0) := (blk_cell BK142.out 0).trans rfl; have hcz5_1 : w3.cell? ⟨gb142, 1, none⟩ = some (.int .i64 0) := (blk_cell BK142.out 1).trans rfl; have hcz5_2 : w3.cell? ⟨gb142, 2, none⟩ = some (.slice none 0 0) := (blk_cell BK142.out 2).trans rfl; have hfz5_0 := blk_frozen BK142.out 0; have hfz5_1 := blk_frozen BK142.out 1; have hfz5_2 := blk_frozen BK142.out 2))
 refine bodyPost_ret (results_cell_row rfl _ _ gb142 33 #[.int .u64 0, .int .i64 0, .slice none 0 0] (0, 0) _ rfl (by (with_reducible repeat (first | refine blk_drewN ?_ _ | refine blk_drew ?_ | refine blk_alloc ?_ _)); refine blk_put (cs := #[.int .u64 0, .int .i64 0, .slice none 0 0]) ?_ 2 _ rfl; (with_reducible repeat (first | refine blk_drewN ?_ _ | refine blk_drew ?_ | refine blk_alloc ?_ _)); refine blk_put (cs := #[.int .u64 0, .int .i64 0, .slice none 0 0]) ?_ 1 _ rfl; (with_reducible repeat (first | refine blk_drewN ?_ _ | refine blk_drew ?_ | refine blk_alloc ?_ _)); refine blk_put (cs := #[.int .u64 0, .int .i64 0, .slice none 0 0]) ?_ 0 _ rfl; (with_reducible repeat (first | refine blk_drewN ?_ _ | refine blk_drew ?_ | refine blk_alloc ?_ _)); exact BK142.out) Try.underlying33 rfl (by kernel_rfl)) rfl ?_
 exact ⟨_, by first | rfl | (simp [errW_none, errW_some] <;> rfl) | (simp [*, errW_none, errW_some] <;> rfl), by first | exact Kd.R_nil _ _ _ _ _ | exact Kd.N_nil _ _ _ _ _ | exact Kd.V_nil _ _ _ _ _ | exact Kd.Q_nil _ _ _ _ _ | exact Kd.S_nil _ _ _ _ _, by repeat (first | (with_reducible first | exact HB.out | apply below_alloc | apply pw_below_drewN | apply below_drew1 | refine below_set ?_ GE141.out | refine below_set ?_ GE142.out) | exact HB.out)⟩
end Go.Proofs.Ytmjhgeinhhhodaa.P
end

section
namespace Go.Proofs.Ytmjhgeinhhhodaa.Lib
set_option linter.unusedVariables false
set_option linter.unusedSimpArgs false
open Go.RowKit Go.Proofs.YtmjhgeinhhhodaaW.PrintWords
def Bytes (xs : List Int) : Prop := ∀ x ∈ xs, 0 ≤ x ∧ x < 256
theorem Bytes.nil : Bytes [] := fun _ h => by cases h
theorem Bytes.append {xs ys : List Int} (h : Bytes xs) (h2 : Bytes ys) : Bytes (xs ++ ys) := fun x hx => by
  rcases List.mem_append.1 hx with hx | hx
  · exact h x hx
  · exact h2 x hx
theorem Bytes.cons {x : Int} {xs : List Int} (h0 : 0 ≤ x ∧ x < 256) (h : Bytes xs) : Bytes (x :: xs) := fun y hy => by
  rcases List.mem_cons.1 hy with rfl | hy
  · exact h0
  · exact h y hy
theorem Bytes.take {xs : List Int} (h : Bytes xs) (n : Nat) : Bytes (xs.take n) := fun x hx => h x (List.mem_of_mem_take hx)
theorem Bytes.drop {xs : List Int} (h : Bytes xs) (n : Nat) : Bytes (xs.drop n) := fun x hx => h x (List.mem_of_mem_drop hx)
theorem Bytes.getD {xs : List Int} (h : Bytes xs) (k : Nat) : 0 ≤ xs.getD k 0 ∧ xs.getD k 0 < 256 := by
  rw [List.getD_eq_getElem?_getD]
  by_cases hk : k < xs.length
  · rw [List.getElem?_eq_getElem hk]; exact h _ (List.getElem_mem hk)
  · rw [List.getElem?_eq_none (by omega)]; exact ⟨by decide, by decide⟩
theorem Bytes.rd {xs : List Int} (h : Bytes xs) (i : Int) : 0 ≤ rd xs i ∧ rd xs i < 256 := h.getD i.toNat
theorem take_snoc (xs : List Int) (k : Nat) (h : k < xs.length) : xs.take (k + 1) = xs.take k ++ [xs.getD k 0] := by
  rw [List.take_succ_eq_append_getElem h, List.getD_eq_getElem?_getD, List.getElem?_eq_getElem h]; rfl
theorem wraps_u64 (n : Int) (h₀ : 0 ≤ n) (h₁ : n < 2 ^ 64) : IntKind.u64.wrap n = n := by
  simp only [IntKind.wrap, IntKind.bits, IntKind.signed]
  simp
  omega
theorem R_plain {α : Type} {d : Kd α} {e : Nat} {w : World} {base : Nat} {ok : Nat → Prop} {A : Option Addr} {n c : Nat} {xs : List α} (h : d.R e w base ok (.slice A n c) xs) (hn : 0 < n) : ∃ g, A = some ⟨g, 0, none⟩ ∧ base ≤ g ∧ n = xs.length := by
  obtain ⟨_, inner, ho, _⟩ := h
  rcases ho.2 with ⟨e1, _⟩ | ⟨g, cap, cur, e1, hg, _⟩
  · injection e1 with _ e1 _; omega
  · injection e1 with e1 e2 _
    exact ⟨g, e1, hg, e2⟩
theorem R_len {α : Type} {d : Kd α} {e : Nat} {w : World} {base : Nat} {ok : Nat → Prop} {A : Option Addr} {n c : Nat} {xs : List α} (h : d.R e w base ok (.slice A n c) xs) : n = xs.length ∧ n ≤ c := by
  obtain ⟨A', c', e1, h1, _⟩ := Kd.R_reads h
  injection e1 with _ e2 e3
  omega
theorem C_none {k : IntKind} {w : World} {xs : List Int} (h : (Kd.int k).C w none xs.length xs) : xs = [] := by
  rcases xs with _ | ⟨x, l⟩
  · rfl
  · obtain ⟨ad, h, _⟩ := h.2.2 (by simp)
    cases h
section
variable {P : Program} {ops : Array Oper} {rest : List Oper} {o : Oper} {a : Act} {Q : Exit → Act → World → Prop}
end
end Go.Proofs.Ytmjhgeinhhhodaa.Lib
end

section
namespace Go.Proofs.Ytmjhgeinhhhodaa.Lib
set_option linter.unusedVariables false
set_option linter.unusedSimpArgs false
open Go.RowKit Go.Proofs.YtmjhgeinhhhodaaW.PrintWords Go.Proofs.YtmjhgeinhhhodaaW.PrintLast
section
variable {P : Program} {ops : Array Oper} {Q : Exit → Act → World → Prop} {md : Region.Mode} {S S' : World → Prop}
theorem goesv_ {oi : Oper} {N : Option Tmp} {a : Act} {w : World} {K : Act → World → Prop} {f : FuncId} {fn : Func} {x : Operand} {ars : Array Operand} {ts : Array TypeId} {first cap : Array Value} (hf : P.funcs[f]? = some fn) (hname : (fn.name == "runtime.NumGoroutine") = false) (hb : fn.body.isSome = true) (args : Array Value)
    (hw : Region.wanted oi (yielded ops a.tmps) = true) (hN : oi.dst = N) (hop : oi.op = .call { callee := .value x, args := ars, argTypes := ts }) (hx : a.eval x = .func (.func f) first cap) (hargs : ars.map a.eval = args)
    (h : Calls P f (first ++ args ++ cap) w fun e w' => ∃ v, e = .returned v ∧ K (a.put N v) w') : if Region.wanted oi (yielded ops a.tmps) = true then Oper.wp P oi a w K Q else K (a.put N undef) w := by
  refine call_ f (first ++ args ++ cap) hw hN ?_ h
  have he := enters_ hf hname hb (first ++ args ++ cap) w
  unfold execOp
  simp [hop, resolve, Deferred.ofValue, hx, invoke, hargs, he, -Array.append_assoc]
end
section
variable {P : Program} {ops : Array Oper} {Q : Exit → Act → World → Prop}
end
end Go.Proofs.Ytmjhgeinhhhodaa.Lib
end

section
namespace Go.Proofs.Ytmjhgeinhhhodaa.Txt
set_option linter.unusedVariables false
set_option linter.unusedSimpArgs false
open Go.RowKit Go.Proofs.YtmjhgeinhhhodaaW.PrintWords Go.Proofs.Ytmjhgeinhhhodaa.Lib
abbrev T := List UInt8
def bs (t : T) : ByteArray := ⟨t.toArray⟩
theorem bs_of (s : ByteArray) : bs s.data.toList = s := rfl
def text : Kd T := Kd.scalar encStr (fun _ => rfl)
theorem lt_irrefl (a : T) : ¬ a < a := List.lt_irrefl a
theorem lt_trans {a b c : T} (h : a < b) (h2 : b < c) : a < c := List.lt_trans h h2
theorem lt_or (a b : T) : a < b ∨ a = b ∨ b < a := by
  by_cases h1 : a < b
  · exact .inl h1
  · by_cases h2 : b < a
    · exact .inr (.inr h2)
    · exact .inr (.inl (List.le_antisymm h2 h1))
theorem lt_of_le_lt {a b c : T} (h : a ≤ b) (h2 : b < c) : a < c := by
  rcases lt_or a b with h3 | rfl | h3
  · exact lt_trans h3 h2
  · exact h2
  · exact absurd h3 h
theorem lt_of_lt_le {a b c : T} (h : a < b) (h2 : b ≤ c) : a < c := by
  rcases lt_or b c with h3 | rfl | h3
  · exact lt_trans h h3
  · exact h
  · exact absurd h3 h2
theorem lt_of_le_ne {a b : T} (h : a ≤ b) (h2 : a ≠ b) : a < b := by
  rcases lt_or a b with h3 | rfl | h3
  · exact h3
  · exact absurd rfl h2
  · exact absurd h3 h
theorem le_trans {a b c : T} (h : a ≤ b) (h2 : b ≤ c) : a ≤ c := fun h3 => h2 (lt_of_lt_le h3 h)
def built (l : List T) : List T := Go.Lib.compact (l.mergeSort fun x y => decide (x ≤ y))
theorem compact_rises (d : Array T) (h : ∀ i j, i ≤ j → j < d.size → d[i]! ≤ d[j]!) (m : Nat) (hm : m ≤ d.size) : (Go.Lib.compactUpTo d m).Pairwise (· < ·) := by
  unfold Go.Lib.compactUpTo
  rw [List.pairwise_map]
  have h1 : (List.range m).Pairwise (· < ·) := List.pairwise_lt_range
  refine (h1.filter (Go.Lib.keeps d)).imp_of_mem (fun {i j} hi hj hij => ?_)
  rw [List.mem_filter, List.mem_range] at hi hj
  have hk : j = 0 ∨ d[j]! ≠ d[j - 1]! := of_decide_eq_true hj.2
  rcases hk with hk | hk
  · omega
  · exact lt_of_le_lt (h i (j - 1) (by omega) (by omega)) (lt_of_le_ne (h (j - 1) j (by omega) (by omega)) (fun e => hk e.symm))
theorem compact_has (d : Array T) : ∀ k, ∃ j, j ≤ k ∧ Go.Lib.keeps d j = true ∧ d[j]! = d[k]!
  | 0 => ⟨0, Nat.le_refl _, by simp [Go.Lib.keeps], rfl⟩
  | k + 1 => by
    by_cases h : d[k + 1]! = d[k]!
    · obtain ⟨j, h1, h2, h3⟩ := compact_has d k
      exact ⟨j, by omega, h2, by rw [h3, h]⟩
    · exact ⟨k + 1, Nat.le_refl _, by simp [Go.Lib.keeps, h], rfl⟩
theorem compact_mem (d : Array T) (m : Nat) (y : T) : y ∈ Go.Lib.compactUpTo d m ↔ ∃ k, k < m ∧ d[k]! = y := by
  unfold Go.Lib.compactUpTo
  simp only [List.mem_map, List.mem_filter, List.mem_range]
  constructor
  · rintro ⟨j, ⟨h1, _⟩, h2⟩; exact ⟨j, h1, h2⟩
  · rintro ⟨k, h1, h2⟩
    obtain ⟨j, h3, h4, h5⟩ := compact_has d k
    exact ⟨j, ⟨by omega, h4⟩, by rw [h5, h2]⟩
theorem built_rises (l : List T) : (built l).Pairwise (· < ·) := by
  unfold built Go.Lib.compact
  refine compact_rises _ (fun i j hij hj => ?_) _ (by simp)
  have hs : (l.mergeSort fun x y => decide (x ≤ y)).Pairwise (fun x y => decide (x ≤ y) = true) := by
    refine List.pairwise_mergeSort (fun a b c h1 h2 => ?_) (fun a b => ?_) l
    · exact decide_eq_true (le_trans (of_decide_eq_true h1) (of_decide_eq_true h2))
    · rw [Bool.or_eq_true]
      rcases lt_or a b with h | rfl | h
      · exact .inl (decide_eq_true (fun h2 => lt_irrefl _ (lt_trans h h2)))
      · exact .inl (decide_eq_true (lt_irrefl a))
      · exact .inr (decide_eq_true (fun h2 => lt_irrefl _ (lt_trans h h2)))
  generalize (l.mergeSort fun x y => decide (x ≤ y)) = s at *
  have hj' : j < s.length := by simpa using hj
  have e1 : s.toArray[i]! = s[i] := by rw [getElem!_pos _ i (by simp; omega)]; rfl
  have e2 : s.toArray[j]! = s[j] := by rw [getElem!_pos _ j (by simpa using hj)]; rfl
  rw [e1, e2]
  rcases Nat.lt_or_eq_of_le hij with h | rfl
  · exact of_decide_eq_true (List.pairwise_iff_getElem.1 hs i j (by omega) hj' h)
  · exact lt_irrefl _
theorem built_mem (l : List T) (y : T) : y ∈ built l ↔ y ∈ l := by
  unfold built Go.Lib.compact
  rw [compact_mem]
  have hp : (l.mergeSort fun x y => decide (x ≤ y)).Perm l := List.mergeSort_perm l _
  rw [← hp.mem_iff]
  generalize (l.mergeSort fun x y => decide (x ≤ y)) = s
  constructor
  · rintro ⟨k, h1, rfl⟩
    rw [getElem!_pos _ k (by simpa using h1)]
    simp
  · intro h
    obtain ⟨k, hk, rfl⟩ := List.getElem_of_mem h
    exact ⟨k, hk, by rw [getElem!_pos _ k (by simpa using hk)]; rfl⟩
theorem built_le (l : List T) : (built l).length ≤ l.length := by
  unfold built
  exact Nat.le_trans (Go.Lib.compact_length_le _) (by simp)
end Go.Proofs.Ytmjhgeinhhhodaa.Txt
end

section
namespace Go.Proofs
open Go.Shelf
def Try.lays190_ren : Go.Shelf.Ren := ⟨fun | 190 => 30 | 125 => 42 | 258 => 41 | 128 => 63 | 129 => 64 | 302 => 55 | 303 => 56 | 304 => 57 | 305 => 58 | 306 => 59 | 307 => 60 | 308 => 45 | 309 => 61 | 310 => 62 | 333 => 66 | 329 => 67 | 330 => 68 | 334 => 69 | 335 => 70 | 336 => 65 | 344 => 71 | n => n, fun | 31 => 31 | 9 => 9 | 3 => 3 | 46 => 80 | 0 => 0 | 51 => 94 | 53 => 30 | 4 => 4 | 183 => 87 | 182 => 86 | 131 => 91 | 5 => 5 | 218 => 96 | 222 => 100 | 228 => 102 | 229 => 103 | n => n, fun | n => n⟩
theorem Try.lays190 : Go.Proofs.Lays.n190 Try.prog Try.lays190_ren := {
  mixed := by kernel_rfl
  f125 := Try.func42.trans (congrArg some (by kernel_rfl))
  f128 := Try.func63.trans (congrArg some (by kernel_rfl))
  f129 := Try.func64.trans (congrArg some (by kernel_rfl))
  f190 := Try.func30.trans (congrArg some (by kernel_rfl))
  f258 := Try.func41.trans (congrArg some (by kernel_rfl))
  f302 := Try.func55.trans (congrArg some (by kernel_rfl))
  f303 := Try.func56.trans (congrArg some (by kernel_rfl))
  f304 := Try.func57.trans (congrArg some (by kernel_rfl))
  f305 := Try.func58.trans (congrArg some (by kernel_rfl))
  f306 := Try.func59.trans (congrArg some (by kernel_rfl))
  f307 := Try.func60.trans (congrArg some (by kernel_rfl))
  f308 := Try.func45.trans (congrArg some (by kernel_rfl))
  f309 := Try.func61.trans (congrArg some (by kernel_rfl))
  f310 := Try.func62.trans (congrArg some (by kernel_rfl))
  f329 := Try.func67.trans (congrArg some (by kernel_rfl))
  f330 := Try.func68.trans (congrArg some (by kernel_rfl))
  f333 := Try.func66.trans (congrArg some (by kernel_rfl))
  f334 := Try.func69.trans (congrArg some (by kernel_rfl))
  f335 := Try.func70.trans (congrArg some (by kernel_rfl))
  f336 := Try.func65.trans (congrArg some (by kernel_rfl))
  f344 := Try.func71.trans (congrArg some (by kernel_rfl))
  t0 := Try.underlying0
  a0 := Try.isAgg0
  z0 := Try.sizeOf0
  v0 := Try.zeroValue0
  t3 := Try.underlying3
  a3 := Try.isAgg3
  z3 := Try.sizeOf3
  v3 := Try.zeroValue3
  t4 := Try.underlying4
  a4 := Try.isAgg4
  z4 := Try.sizeOf4
  v4 := Try.zeroValue4
  t5 := Try.underlying5
  a5 := Try.isAgg5
  z5 := Try.sizeOf5
  v5 := Try.zeroValue5
  t9 := Try.underlying9
  a9 := Try.isAgg9
  z9 := Try.sizeOf9
  v9 := Try.zeroValue9
  t31 := Try.underlying31
  a31 := Try.isAgg31
  z31 := Try.sizeOf31
  v31 := Try.zeroValue31
  t46 := Try.underlying80
  a46 := Try.isAgg80
  z46 := Try.sizeOf80
  v46 := Try.zeroValue80
  t51 := Try.underlying94
  a51 := Try.isAgg94
  z51 := Try.sizeOf94
  v51 := Try.zeroValue94
  t53 := Try.underlying30
  a53 := Try.isAgg30
  z53 := Try.sizeOf30
  v53 := Try.zeroValue30
  t131 := Try.underlying91
  a131 := Try.isAgg91
  z131 := Try.sizeOf91
  v131 := Try.zeroValue91
  t182 := Try.underlying86
  a182 := Try.isAgg86
  z182 := Try.sizeOf86
  v182 := Try.zeroValue86
  t183 := Try.underlying87
  a183 := Try.isAgg87
  z183 := Try.sizeOf87
  v183 := Try.zeroValue87
  t218 := Try.underlying96
  a218 := Try.isAgg96
  z218 := Try.sizeOf96
  v218 := Try.zeroValue96
  t222 := Try.underlying100
  a222 := Try.isAgg100
  z222 := Try.sizeOf100
  v222 := Try.zeroValue100
  t228 := Try.underlying102
  a228 := Try.isAgg102
  z228 := Try.sizeOf102
  v228 := Try.zeroValue102
  t229 := Try.underlying103
  a229 := Try.isAgg103
  z229 := Try.sizeOf103
  v229 := Try.zeroValue103 }
open Go.Sort Go.RowKit in
theorem Try.slices_Sort_string (blk off cap : Nat) (ss : List (List UInt8)) (w : World) (hH : Holds encStr w blk off ss.toArray) (hblk : blk < w.heap.size) (hsz : ss.length < 4611686018427387904) :
    Calls Try.prog 30 #[.slice (some ⟨blk, off, none⟩) ss.length cap] w fun e w' =>
      e = .returned (.tuple #[]) ∧ ∃ n os, w' = grow (putRow encStr (Sort.ahead w n) blk off (ss.mergeSort fun x y => decide (x ≤ y)).toArray) os := Any.slices_Sort_string Try.lays190 blk off cap ss w hH hblk hsz
def Try.laysNm216_ren : Go.Shelf.Ren := ⟨fun | 16 => 29 | n => n, fun | 24 => 31 | 9 => 9 | 4 => 4 | n => n, fun | n => n⟩
theorem Try.laysNm216 : Go.Proofs.Lays2.n16 Try.prog Try.laysNm216_ren := {
  mixed := by kernel_rfl
  f16 := Try.func29.trans (congrArg some (by kernel_rfl))
  t4 := Try.underlying4
  a4 := Try.isAgg4
  z4 := Try.sizeOf4
  v4 := Try.zeroValue4
  t9 := Try.underlying9
  a9 := Try.isAgg9
  z9 := Try.sizeOf9
  v9 := Try.zeroValue9
  t24 := Try.underlying31
  a24 := Try.isAgg31
  z24 := Try.sizeOf31
  v24 := Try.zeroValue31
  i9 := by kernel_rfl }
open Go.RowKit Go.Lib in
theorem Try.slices_Clone_string (b off n c : Nat) (zs : List ByteArray) (w : World) (hz : n ≤ zs.length) (hbig : n * 16 ≤ 140737488355328) (hc : ∀ j, j < zs.length → w.cell? ⟨b, off + j, none⟩ = some (.string (zs.getD j ByteArray.empty))) :
    Calls Try.prog 29 #[.slice (some ⟨b, off, none⟩) n c] w fun e w' => ∃ v', e = .returned v' ∧ w'.ownsRow w.heap.size 9 1 v' n ((zs.take n).map (Value.string)) ∧ v' ≠ .slice none 0 0 ∧ Below w.heap.size w w' := Any.slices_Clone_string Try.laysNm216 b off n c zs w hz hbig hc
open Go.RowKit Go.Lib in
theorem Try.slices_Clone_string_nil (n c : Nat) (w : World) :
    Calls Try.prog 29 #[.slice none n c] w fun e w' => e = .returned (.slice none 0 0) ∧ w' = w := Any.slices_Clone_string_nil Try.laysNm216 n c w
open Go.RowKit Go.Lib in
theorem Try.slices_Clone_string_zero (a : Addr) (c : Nat) (w : World) :
    Calls Try.prog 29 #[.slice (some a) 0 c] w fun e w' => ∃ v', e = .returned v' ∧ w'.ownsRow w.heap.size 9 1 v' 0 [] ∧ v' ≠ .slice none 0 0 ∧ Below w.heap.size w w' := Any.slices_Clone_string_zero Try.laysNm216 a c w
def Try.lays194_ren : Go.Shelf.Ren := ⟨fun | 194 => 31 | n => n, fun | 31 => 31 | 9 => 9 | 3 => 3 | 4 => 4 | 0 => 0 | n => n, fun | n => n⟩
theorem Try.lays194 : Go.Proofs.Lays.n194 Try.prog Try.lays194_ren := {
  mixed := by kernel_rfl
  f194 := Try.func31.trans (congrArg some (by kernel_rfl))
  t0 := Try.underlying0
  a0 := Try.isAgg0
  z0 := Try.sizeOf0
  v0 := Try.zeroValue0
  t3 := Try.underlying3
  a3 := Try.isAgg3
  z3 := Try.sizeOf3
  v3 := Try.zeroValue3
  t4 := Try.underlying4
  a4 := Try.isAgg4
  z4 := Try.sizeOf4
  v4 := Try.zeroValue4
  t9 := Try.underlying9
  a9 := Try.isAgg9
  z9 := Try.sizeOf9
  v9 := Try.zeroValue9
  t31 := Try.underlying31
  a31 := Try.isAgg31
  z31 := Try.sizeOf31
  v31 := Try.zeroValue31 }
open Go.RowKit Go.Lib Go.Sort in
theorem Try.slices_Compact_string_arr (blk off cap : Nat) (d : Array (List UInt8)) (w : World) (hH : Holds encStr w blk off d) (hsz : d.size ≤ 9223372036854775807) (hcap : d.size ≤ cap) :
    Calls Try.prog 31 #[.slice (some ⟨blk, off, none⟩) d.size cap] w fun e w' => e = .returned (.slice (some ⟨blk, off, none⟩) (compactUpTo d d.size).length cap) ∧ ∃ q, w' = putRow encStr (Sort.ahead w q) blk off (compactUpTo d d.size ++ List.replicate (d.size - (compactUpTo d d.size).length) []).toArray := Any.slices_Compact_string_arr Try.lays194 blk off cap d w hH hsz hcap
open Go.RowKit Go.Lib Go.Sort in
theorem Try.slices_Compact_string (blk off cap : Nat) (zs : List (List UInt8)) (w : World) (hH : Holds encStr w blk off zs.toArray) (hsz : zs.length ≤ 9223372036854775807) (hcap : zs.length ≤ cap) :
    Calls Try.prog 31 #[.slice (some ⟨blk, off, none⟩) zs.length cap] w fun e w' => e = .returned (.slice (some ⟨blk, off, none⟩) (Lib.compact zs).length cap) ∧ ∃ q, w' = putRow encStr (Sort.ahead w q) blk off (Lib.compact zs ++ List.replicate (zs.length - (Lib.compact zs).length) []).toArray := Any.slices_Compact_string Try.lays194 blk off cap zs w hH hsz hcap
open Go.RowKit Go.Lib Go.Sort in
theorem Try.slices_Compact_string_empty (a : Option Addr) (cap : Nat) (w : World) :
    Calls Try.prog 31 #[.slice a 0 cap] w fun e w' => e = .returned (.slice a 0 cap) ∧ w' = w := Any.slices_Compact_string_empty Try.lays194 a cap w
open Go.RowKit Go.Lib Go.Sort in
theorem Try.slices_Compact_string_cells (b off n c : Nat) (Sx : Nat → ByteArray) (w : World) (hbig : n ≤ 9223372036854775807) (hcap : n ≤ c) (hc : ∀ i, i < n → w.cell? ⟨b, off + i, none⟩ = some (.string (Sx i))) (hf : ∀ j, j < n → w.frozen? ⟨b, off + j, none⟩ = false) :
    Calls Try.prog 31 #[.slice (some ⟨b, off, none⟩) n c] w fun e w' => e = .returned (.slice (some ⟨b, off, none⟩) (Lib.compact (Lib.strsOf Sx n)).length c) ∧ ∃ q, w' = (w.drewN q).setCells b off ((Lib.compact (Lib.strsOf Sx n) ++ List.replicate (n - (Lib.compact (Lib.strsOf Sx n)).length) []).map encStr) := Any.slices_Compact_string_cells Try.lays194 b off n c Sx w hbig hcap hc hf
open Go.RowKit Go.Sort in
theorem Try.slices_Sort_string_none (p : Option Addr) (cap : Nat) (w : World) :
    Calls Try.prog 30 #[.slice p 0 cap] w fun e w' => e = .returned (.tuple #[]) ∧ w' = w := Any.slices_Sort_string_none Try.lays190 p cap w
def Try.laysSlE041_f29_ren : Go.Shelf.Ren := ⟨fun | 41 => 29 | n => n, fun | 22 => 31 | 23 => 9 | 4 => 4 | n => n, fun | n => n⟩
theorem Try.laysSlE041_f29 : Go.Proofs.SlLaysE0.n41 Try.prog Try.laysSlE041_f29_ren := {
  mixed := by kernel_rfl
  f41 := ⟨Try.f29.name, by decide, Try.func29.trans (congrArg some (by kernel_rfl))⟩
  t4 := Try.underlying4
  a4 := Try.isAgg4
  z4 := Try.sizeOf4
  v4 := Try.zeroValue4
  t22 := Try.underlying31
  a22 := Try.isAgg31
  z22 := Try.sizeOf31
  v22 := Try.zeroValue31 }
open Go.RowKit Go.Lib in
theorem Try.slices_Clone (i0 : TypeInfo) (z : Value) (size bytes : Nat) (hi : Try.prog.info? 9 = some i0) (hz0 : i0.zero = some z) (hz1 : i0.size = size) (hz2 : i0.bytes = bytes) (hzs : z.cells.size = size) (hsz : 0 < size) (z23 : ∀ w, (Go.sizeOf 9).run Try.prog w = .ok size w) (b off n c : Nat) (news : List Value) (w : World) (hl : news.length = n * size) (hn : n ≤ maxLen) (hbig : n * bytes ≤ 140737488355328) (hc : ∀ j u, news[j]? = some u → w.cell? ⟨b, off + j, none⟩ = some u) (h1 : ∀ u ∈ news, u.oneCell' = true) :
    Calls Try.prog 29 #[.slice (some ⟨b, off, none⟩) n c] w fun e w' => ∃ v', e = .returned v' ∧ w'.ownsRow w.heap.size 9 size v' n news ∧ v' ≠ .slice none 0 0 ∧ Below w.heap.size w w' := AnyE.slices_Clone Try.laysSlE041_f29 i0 z size bytes hi hz0 hz1 hz2 hzs hsz z23 b off n c news w hl hn hbig hc h1
open Go.RowKit Go.Lib in
theorem Try.slices_Clone_nil (n c : Nat) (w : World) :
    Calls Try.prog 29 #[.slice none n c] w fun e w' => e = .returned (.slice none 0 0) ∧ w' = w := AnyE.slices_Clone_nil Try.laysSlE041_f29 n c w
end Go.Proofs
end

section
namespace Go.Proofs.Ytmjhgeinhhhodaa.Txt
set_option linter.unusedVariables false
set_option linter.unusedSimpArgs false
open Go.RowKit Go.Proofs.YtmjhgeinhhhodaaW.PrintWords Go.Proofs.YtmjhgeinhhhodaaW.PrintLast Go.Proofs.YtmjhgeinhhhodaaW.PrintMore Go.Proofs.Ytmjhgeinhhhodaa.Lib
theorem R_at_text {e : TypeId} {w : World} {base : Nat} {ok : Nat → Prop} {g n c : Nat} {xs : List T} (h : text.R e w base ok (.slice (some ⟨g, 0, none⟩) n c) xs) (hn : 0 < n) :
    ∃ cur : Array Value, base ≤ g ∧ n = xs.length ∧ w.heap[g]? = some (.cells cur e (0, 0)) ∧ xs.length ≤ c ∧ c ≤ maxLen ∧ cur.size = c * 1 ∧ cur.toList.take xs.length = xs.map encStr := by
  have hl := (R_len h).1
  subst hl
  have ho := Kd.own_of_R h
  rcases ho.2 with ⟨e1, _⟩ | ⟨g', cap, cur, e1, hg, hb, h1, h2, h3, h4⟩
  · cases e1
  · injection e1 with e1 e2 e3
    injection e1 with e1
    injection e1 with e1
    subst e1
    subst e3
    exact ⟨cur, hg, rfl, hb, h1, h2, h3, by rw [Nat.mul_one] at h4; exact h4⟩
set_option maxRecDepth 100000 in
set_option maxHeartbeats 400000 in
theorem sort_texts (ts : List T) (w : World) (base : Nat) (ok : Nat → Prop) (A : Option Addr) (n c : Nat) (h : text.R 9 w base ok (.slice A n c) ts) (hl : ts.length < 4611686018427387904) :
    Calls Try.prog 30 #[.slice A n c] w fun e w' => e = .returned (.tuple #[]) ∧ text.R 9 w' base ok (.slice A n c) (ts.mergeSort fun x y => decide (x ≤ y)) ∧ w.grownBy w' (Value.slice A n c).ownBlock := by
  by_cases hn : n = 0
  · subst hn
    have e : ts = [] := List.eq_nil_of_length_eq_zero (R_len h).1.symm
    subst e
    refine (Try.slices_Sort_string_none A c w).mono fun e w' he => ?_
    obtain ⟨he, rfl⟩ := he
    exact ⟨he, by rw [List.mergeSort_nil]; exact h, grown_of_below (Below.refl _ _) _⟩
  · obtain ⟨g, rfl, hg, -⟩ := R_plain h (by omega)
    obtain ⟨cur, hbase, hnl, hb, h1, h2, h3, h4⟩ := R_at_text h (by omega)
    subst hnl
    refine (Try.slices_Sort_string g 0 c ts w (holds_of_block hb h4) (Array.getElem?_eq_some_iff.1 hb).1 hl).mono fun e w' he => ?_
    obtain ⟨he, k, os, rfl⟩ := he
    refine ⟨he, ?_, grownBy_sorted _⟩
    have hm : (ts.mergeSort fun x y => decide (x ≤ y)).length = ts.length := by simp
    have ho := ownsRow_sorted (n := k) (os := os) (ts := ts.mergeSort fun x y => decide (x ≤ y)) hm hbase hb h1 h2 h3
    exact Kd.R_of_own (by rw [hm]; exact ho) h.1
set_option maxRecDepth 100000 in
set_option maxHeartbeats 400000 in
theorem compact_texts (ts : List T) (w : World) (base : Nat) (ok : Nat → Prop) (A : Option Addr) (n c : Nat) (h : text.R 9 w base ok (.slice A n c) ts) (hl : ts.length < 4611686018427387904) :
    Calls Try.prog 31 #[.slice A n c] w fun e w' => e = .returned (.slice A (Go.Lib.compact ts).length c) ∧ text.R 9 w' base ok (.slice A (Go.Lib.compact ts).length c) (Go.Lib.compact ts) ∧ w.grownBy w' (Value.slice A n c).ownBlock := by
  by_cases hn : n = 0
  · subst hn
    have e : ts = [] := List.eq_nil_of_length_eq_zero (R_len h).1.symm
    subst e
    refine (Try.slices_Compact_string_empty A c w).mono fun e w' he => ?_
    obtain ⟨he, rfl⟩ := he
    exact ⟨he, h, grown_of_below (Below.refl _ _) _⟩
  · obtain ⟨g, rfl, hg, -⟩ := R_plain h (by omega)
    obtain ⟨cur, hbase, hnl, hb, h1, h2, h3, h4⟩ := R_at_text h (by omega)
    subst hnl
    refine (Try.slices_Compact_string g 0 c ts w (holds_of_block hb h4) (by omega) h1).mono fun e w' he => ?_
    obtain ⟨he, k, rfl⟩ := he
    have hle := Go.Lib.compact_length_le ts
    have hm : (Go.Lib.compact ts ++ List.replicate (ts.length - (Go.Lib.compact ts).length) ([] : T)).length = ts.length := by rw [List.length_append, List.length_replicate]; omega
    have ho := ownsRow_sorted (n := k) (os := #[]) (ts := Go.Lib.compact ts ++ List.replicate (ts.length - (Go.Lib.compact ts).length) ([] : T)) hm hbase hb h1 h2 h3
    rw [Sort.grow_empty] at ho
    have hR : text.R 9 _ base ok (.slice (some ⟨g, 0, none⟩) ts.length c) _ := Kd.R_of_own (by rw [hm]; exact ho) h.1
    have hR2 := Kd.R_take hR (m := (Go.Lib.compact ts).length) (by rw [hm]; exact hle)
    rw [List.take_left] at hR2
    refine ⟨he, hR2, ?_⟩
    have hg2 := grownBy_sorted (w := w) (g := g) (n := k) (os := #[]) (Go.Lib.compact ts ++ List.replicate (ts.length - (Go.Lib.compact ts).length) ([] : T)).toArray
    rw [Sort.grow_empty] at hg2
    exact hg2
end Go.Proofs.Ytmjhgeinhhhodaa.Txt
end

section
namespace Go.Proofs.Ytmjhgeinhhhodaa.P
set_option linter.unusedVariables false
set_option linter.unusedSimpArgs false
open Go.RowKit Go.Proofs.YtmjhgeinhhhodaaW.PrintWords Go.Proofs.YtmjhgeinhhhodaaW.PrintLast Go.Proofs.YtmjhgeinhhhodaaW.PrintMore Go.Proofs.Ytmjhgeinhhhodaa.Lib
theorem infoStr : (Try.prog.info? 9).map (fun i => (i.zero, i.size, i.bytes)) = some (some (.string ⟨#[]⟩), 1, 16) := by kernel_rfl
def slices_Grow_string_string_at_nil.f (a0 : Int) : Option (List ByteArray) := if 0 ≤ a0 then (if a0 ≤ 8796093022208 then some [] else none) else none
set_option maxRecDepth 100000 in
set_option maxHeartbeats 400000 in
theorem grow_strings (n : Nat) (w : World) (hn : n ≤ 8796093022208) : Calls Try.prog 40 #[.slice none 0 0, .int .i64 n] w fun e w' => ∃ v0_ : Value, e = .returned v0_ ∧ Kd.R Kd.string 9 w' w.heap.size (fun _ => True) v0_ [] ∧ Below w.heap.size w w' := by
  have HB := Aside0.mk (Below.refl w.heap.size w)
  by_cases h0 : n = 0
  · subst h0
    go_enter Try.func40, Try.ntmps40
    go_wp2_with fail
    go_ret
    exact ⟨_, rfl, Kd.R_nil _ _ _ _ _, HB.out⟩
  · have h1 : 0 < n := by omega
    have h2 : (0 : Int) < (n : Int) := by omega
    clear h0
    go_enter Try.func40, Try.ntmps40
    go_wp2_with (first
      | ((with_reducible refine gate_builtin (b := .append) (xs := #[.tmp 20, .tmp 21]) rfl ?_); at_builtin; refine Kd.R_append_zeros Kd.string (w0 := w) w.heap.size rfl (.tmp 20) (.tmp 21) 31 3 9 (.string ⟨#[]⟩) 16 rfl Try.underlying31 Try.underlying3 infoStr rfl (by decide) (by decide) (.slice none 0 0) [] (⟨#[]⟩ : ByteArray) (kx := .i64) (n : Int) (fun _ => True) rfl rfl rfl (fun _ _ => trivial) (Kd.R_nil _ _ _ _ _) (by omega) HB.out (Nat.le_refl _) (by simp; omega) ?_; intro v1 w1 ho1 hb1 hg1 ha1; rw [List.nil_append, Int.toNat_natCast] at ho1; obtain ⟨A1, c1, rfl, hc1, -⟩ := Kd.R_reads ho1; have hc0 : 0 ≤ c1 := Nat.zero_le _; have HO1 := Aside0.mk ho1; have HB1 := Aside0.mk hb1; clear ho1 hb1 hg1 ha1 hc1)
      | fail)
    go_ret
    have h3 := Kd.R_take (m := 0) HO1.out (Nat.zero_le _)
    exact ⟨_, rfl, h3, HB1.out⟩
theorem slices_Grow_string_string_at_nil.calls (a0 : Int) (r : List ByteArray) (w : World) (h : slices_Grow_string_string_at_nil.f a0 = some r) : Calls Try.prog 40 #[.slice none 0 0, .int .i64 a0] w fun e w' => ∃ v0_ : Value, e = .returned v0_ ∧ Kd.R Kd.string 9 w' w.heap.size (fun _ => True) v0_ r ∧ Below w.heap.size w w' := by
  unfold slices_Grow_string_string_at_nil.f at h
  split at h
  · split at h
    · injection h with h
      subst h
      obtain ⟨n, rfl⟩ := Int.eq_ofNat_of_zero_le (by assumption : 0 ≤ a0)
      exact grow_strings n w (by omega)
    · cases h
  · cases h
set_option maxRecDepth 100000 in
set_option maxHeartbeats 400000 in
theorem clone_strings (xs : List ByteArray) (len : Nat) (A : Option Addr) (c : Nat) (w : World) (hr : Kd.C Kd.string w A len xs) (hl : xs.length * 16 ≤ 140737488355328) :
    Calls Try.prog 29 #[.slice A len c] w fun e w' => ∃ v, e = .returned v ∧ Kd.R Kd.string 9 w' w.heap.size (fun _ => True) v xs ∧ Below w.heap.size w w' := by
  obtain rfl := hr.1
  have HR := Aside0.mk hr
  have HB := Aside0.mk (Below.refl w.heap.size w)
  clear hr
  have heq := fun u : World => Lib.run_eql_slice_nil (P := Try.prog) u 31 9 A xs.length c 0 0 Try.underlying31
  rcases A with _ | ad
  · have hx : xs = [] := by
      rcases xs with _ | ⟨x, l⟩
      · rfl
      · obtain ⟨ad, h, _⟩ := HR.out.2.2 (by simp)
        cases h
    subst hx
    simp only [List.length_nil, Option.isNone_none] at heq
    go_enter Try.func29, Try.ntmps29
    go_wp2
    go_ret
    exact ⟨_, rfl, Kd.R_nil _ _ _ _ _, HB.out⟩
  · go_enter Try.func29, Try.ntmps29
    go_wp2_with (first
      | ((with_reducible refine gate_dst (N := 5) rfl ?_); refine Kd.R_lit Kd.string (w0 := w) w.heap.size 9 ?hg (N := 5) ?hd (xs := ([] : List ByteArray)) (inner := []) (ok := fun _ => True) (okp := fun _ => True) ?hr (Reps.none _ _) (fun _ hk => hk) trivial HB.out (Nat.le_refl _) (by simp) ?_; (case hd => rfl); (case hg => rfl); (case hr => first | (go_simp; done) | (go_simp; rfl)); intro v1 w1 ho1 hb1 hg1 ha1; have HO := Aside0.mk ho1; have HB1 := Aside0.mk hb1; have HR1 := Aside0.mk (Kd.C_below HR.out hb1); clear ho1 hb1 hg1 ha1)
      | ((with_reducible refine gate_builtin (b := .append) (xs := #[.tmp 5, .tmp 6]) rfl ?_); at_builtin; refine Kd.R_append_rows Kd.string (w0 := w) w.heap.size rfl (.tmp 5) (.tmp 6) 31 9 (.string ⟨#[]⟩) 16 rfl Try.underlying31 infoStr rfl (by decide) (by omega) v1 [] xs (some ad) xs.length c (fun _ => True) (fun _ => False) rfl rfl HO.out HR1.out ?aK (fun _ h => h.elim) (fun _ _ => trivial) HB1.out HB1.out.size ?aL ?_; (case aK => exact fun _ _ h => h); (case aL => simp only [List.length_nil, Nat.zero_add]; exact hl); intro v2 w2 ho2 hb2 hg2 ha2; have HO2 := Aside0.mk ho2; have HB2 := Aside0.mk hb2; clear ho2 hb2 hg2 ha2))
    go_ret
    exact ⟨_, rfl, HO2.out, HB2.out⟩
end Go.Proofs.Ytmjhgeinhhhodaa.P
end

section
namespace Go.Proofs.Ytmjhgeinhhhodaa.P
set_option linter.unusedVariables false
set_option linter.unusedSimpArgs false
open Go.RowKit Go.Proofs.YtmjhgeinhhhodaaW.PrintWords Go.Proofs.YtmjhgeinhhhodaaW.PrintLast Go.Proofs.YtmjhgeinhhhodaaW.PrintMore Go.Proofs.Ytmjhgeinhhhodaa.Lib
open Go.Proofs.Ytmjhgeinhhhodaa
def txts (l : List ByteArray) : List Txt.T := l.map (·.data.toList)
def strs (l : List Txt.T) : List ByteArray := l.map Txt.bs
theorem strs_txts (l : List ByteArray) : strs (txts l) = l := by
  unfold strs txts
  rw [List.map_map]
  exact (List.map_congr_left (fun x _ => Txt.bs_of x)).trans (List.map_id l)
theorem txts_strs (l : List Txt.T) : txts (strs l) = l := by
  unfold strs txts
  rw [List.map_map]
  exact (List.map_congr_left (fun x _ => rfl)).trans (List.map_id l)
theorem txts_length (l : List ByteArray) : (txts l).length = l.length := List.length_map ..
theorem strs_length (l : List Txt.T) : (strs l).length = l.length := List.length_map ..
theorem R_txts {e : Nat} {w : World} {base : Nat} {ok : Nat → Prop} {v : Value} {l : List ByteArray} (h : Kd.R Kd.string e w base ok v l) : Kd.R Txt.text e w base ok v (txts l) := by
  have ho := Kd.own_of_R h
  refine Kd.R_of_own ?_ h.1
  rw [txts_length]
  have e : encs encStr (txts l) = encs Value.string l := by
    unfold txts
    simp only [encs, List.map_map]
    exact List.map_congr_left (fun x _ => rfl)
  rw [e]
  exact ho
theorem R_strs {e : Nat} {w : World} {base : Nat} {ok : Nat → Prop} {v : Value} {l : List Txt.T} (h : Kd.R Txt.text e w base ok v l) : Kd.R Kd.string e w base ok v (strs l) := by
  have ho := Kd.own_of_R h
  refine Kd.R_of_own ?_ h.1
  rw [strs_length]
  have e : encs Value.string (strs l) = encs encStr l := by
    unfold strs
    simp only [encs, List.map_map]
    exact List.map_congr_left (fun x _ => rfl)
  rw [e]
  exact ho
def sortB (l : List ByteArray) : List ByteArray := strs ((txts l).mergeSort fun x y => decide (x ≤ y))
def compactB (l : List ByteArray) : List ByteArray := strs (Go.Lib.compact (txts l))
def builtB (l : List ByteArray) : List ByteArray := strs (Txt.built (txts l))
theorem sortB_length (l : List ByteArray) : (sortB l).length = l.length := by unfold sortB; rw [strs_length, List.length_mergeSort, txts_length]
theorem built_is (l : List ByteArray) : compactB (sortB l) = builtB l := by unfold compactB sortB builtB; rw [txts_strs]; rfl
theorem sort_strings (l : List ByteArray) (w : World) (base : Nat) (ok : Nat → Prop) (A : Option Addr) (n c : Nat) (h : Kd.R Kd.string 9 w base ok (.slice A n c) l) (hl : l.length < 4611686018427387904) :
    Calls Try.prog 30 #[.slice A n c] w fun e w' => e = .returned (.tuple #[]) ∧ Kd.R Kd.string 9 w' base ok (.slice A n c) (sortB l) ∧ w.grownBy w' (Value.slice A n c).ownBlock :=
  (Txt.sort_texts (txts l) w base ok A n c (R_txts h) (by rw [txts_length]; exact hl)).mono fun e w' ⟨h1, h2, h3⟩ => ⟨h1, R_strs h2, h3⟩
theorem compact_strings (l : List ByteArray) (w : World) (base : Nat) (ok : Nat → Prop) (A : Option Addr) (n c : Nat) (h : Kd.R Kd.string 9 w base ok (.slice A n c) l) (hl : l.length < 4611686018427387904) :
    Calls Try.prog 31 #[.slice A n c] w fun e w' => ∃ v, e = .returned v ∧ Kd.R Kd.string 9 w' base ok v (compactB l) ∧ v = .slice A (compactB l).length c ∧ w.grownBy w' (Value.slice A n c).ownBlock :=
  (Txt.compact_texts (txts l) w base ok A n c (R_txts h) (by rw [txts_length]; exact hl)).mono fun e w' ⟨h1, h2, h3⟩ => by
    have e1 : (compactB l).length = (Go.Lib.compact (txts l)).length := strs_length _
    exact ⟨_, h1, R_strs h2, by rw [e1], h3⟩
end Go.Proofs.Ytmjhgeinhhhodaa.P
end

section
namespace Go.Proofs.Ytmjhgeinhhhodaa.P
set_option linter.unusedVariables false
set_option linter.unusedSimpArgs false
open Go.RowKit Go.Proofs.YtmjhgeinhhhodaaW.PrintWords Go.Proofs.YtmjhgeinhhhodaaW.PrintLast Go.Proofs.YtmjhgeinhhhodaaW.PrintMore Go.Proofs.Ytmjhgeinhhhodaa.Lib
abbrev fn (k : Nat) : Value := .func (.func k) #[] #[]
def kindCells : Int → List Value
  | 1 => [.bool false, .nilFunc, .nilFunc, fn 48]
  | 2 => [.bool false, fn 49, fn 50, fn 51]
  | 3 => [.bool false, fn 47, fn 52, fn 51]
  | 4 => [.bool false, fn 47, fn 53, fn 51]
  | 5 => [.bool true, .nilFunc, .nilFunc, fn 54]
  | _ => [.bool false, .nilFunc, .nilFunc, .nilFunc]
def kindsAll : Array Value := (kindCells 0 ++ kindCells 1 ++ kindCells 2 ++ kindCells 3 ++ kindCells 4 ++ kindCells 5).toArray
set_option maxRecDepth 100000 in
set_option maxHeartbeats 400000 in
theorem kinds_calls (w : World) : Calls Try.prog 39 #[] w fun e w' => e = .returned (.agg kindsAll) ∧ Below w.heap.size w w' := by
  go_enter Try.func39, Try.ntmps39
  go_wp2_with (first
    | (refine wpList_store_row rfl 74 (.tmp 0) (.tmp 9) rfl w.heap.size kindsAll rfl rfl 74 _ (heap_alloc_new w _) (by kernel_rfl) rfl (by kernel_rfl) ?_)
    | fail)
  rw [World.setRow_alloc_new]
  exact bodyPost_ret (results_cell_row rfl _ _ w.heap.size 74 kindsAll (0, 0) _ rfl (heap_alloc_new w _) Try.underlying74 rfl (by kernel_rfl)) rfl ⟨rfl, (Below.refl _ _).alloc (Nat.le_refl _) _⟩
theorem kindCells_out {k : Int} (h : k < 1 ∨ 5 < k) : kindCells k = [.bool false, .nilFunc, .nilFunc, .nilFunc] := by
  unfold kindCells
  split <;> first | rfl | omega
theorem index_1 (w : World) : (Instr.index 74 (.agg kindsAll) (.int .i64 1)).run Try.prog w = .ok (.agg (kindCells 1).toArray) w := by kernel_rfl
theorem index_2 (w : World) : (Instr.index 74 (.agg kindsAll) (.int .i64 2)).run Try.prog w = .ok (.agg (kindCells 2).toArray) w := by kernel_rfl
theorem index_3 (w : World) : (Instr.index 74 (.agg kindsAll) (.int .i64 3)).run Try.prog w = .ok (.agg (kindCells 3).toArray) w := by kernel_rfl
theorem index_4 (w : World) : (Instr.index 74 (.agg kindsAll) (.int .i64 4)).run Try.prog w = .ok (.agg (kindCells 4).toArray) w := by kernel_rfl
theorem index_5 (w : World) : (Instr.index 74 (.agg kindsAll) (.int .i64 5)).run Try.prog w = .ok (.agg (kindCells 5).toArray) w := by kernel_rfl
theorem index74 (k : Int) (h0 : 1 ≤ k) (h5 : k ≤ 5) (w : World) : (Instr.index 74 (.agg kindsAll) (.int .i64 k)).run Try.prog w = .ok (.agg (kindCells k).toArray) w := by
  have hk : k = 1 ∨ k = 2 ∨ k = 3 ∨ k = 4 ∨ k = 5 := by omega
  rcases hk with rfl | rfl | rfl | rfl | rfl
  · exact index_1 w
  · exact index_2 w
  · exact index_3 w
  · exact index_4 w
  · exact index_5 w
set_option maxRecDepth 100000 in
set_option maxHeartbeats 400000 in
theorem known_out (k j : Int) (w : World) (h : k < 1 ∨ 5 < k) : Calls Try.prog 27 #[.agg #[.int .i64 k, .int .i64 j]] w fun e w' => e = .returned (.tuple #[.agg (kindCells k).toArray, .bool false]) ∧ Below w.heap.size w w' := by
  have HK := Aside0.mk (kindCells_out h)
  by_cases h1 : k < 1
  all_goals
    first
      | (have h1b : decide (k < 1) = true := decide_eq_true h1)
      | (have h1b : decide (k < 1) = false := decide_eq_false h1
         have h5b : decide (5 < k) = true := decide_eq_true (by omega))
    clear h
    go_enter Try.func27, Try.ntmps27
    go_wp2_with (first
      | ((with_reducible refine gate_dst (N := 1) rfl ?_); refine box_event ?hg (N := 1) ?hd (cs := #[.int .i64 k, .int .i64 j]) (t := 23) ?hr ?_; (case hd => rfl); (case hg => rfl); (case hr => first | (go_simp; done) | (go_simp; rfl)); intro g1 hg w1 hbox hb; have GE1 := Aside0.mk (Nat.le_of_eq hg.symm); have BK1 := Aside0.mk hbox; have HX1 := Aside0.mk hb; clear hg hbox hb)
      | (((with_reducible refine gate_dst (N := 2) rfl ?_); refine box_event ?hg (N := 2) ?hd (cs := #[.bool false, .nilFunc, .nilFunc, .nilFunc]) (t := 61) ?hr ?_; (case hd => rfl); (case hg => rfl); (case hr => first | (go_simp; done) | (go_simp; rfl)); intro g2 hg w2 hbox hb; have GE2 := Aside0.mk (Nat.le_of_eq hg.symm); have BK2 := Aside0.mk hbox; have HX2 := Aside0.mk hb; clear hg hbox hb); have BK1b := Aside0.mk (blk_below BK1.out HX2.out); have HB2 := Aside0.mk (below_then HX1.out HX1.out.size HX2.out); (have hg1_0 : w2.cell? ⟨g1, 0, none⟩ = some (.int .i64 k) := (blk_cell BK1b.out 0).trans rfl; have hfg1_0 := blk_frozen BK1b.out 0; have hg1_1 : w2.cell? ⟨g1, 1, none⟩ = some (.int .i64 j) := (blk_cell BK1b.out 1).trans rfl; have hfg1_1 := blk_frozen BK1b.out 1); (have hg2_0 : w2.cell? ⟨g2, 0, none⟩ = some (.bool false) := (blk_cell BK2.out 0).trans rfl; have hfg2_0 := blk_frozen BK2.out 0; have hg2_1 : w2.cell? ⟨g2, 1, none⟩ = some (.nilFunc) := (blk_cell BK2.out 1).trans rfl; have hfg2_1 := blk_frozen BK2.out 1; have hg2_2 : w2.cell? ⟨g2, 2, none⟩ = some (.nilFunc) := (blk_cell BK2.out 2).trans rfl; have hfg2_2 := blk_frozen BK2.out 2; have hg2_3 : w2.cell? ⟨g2, 3, none⟩ = some (.nilFunc) := (blk_cell BK2.out 3).trans rfl; have hfg2_3 := blk_frozen BK2.out 3))
      | fail)
    have HG2 := Aside0.mk (Nat.le_trans HX1.out.size GE2.out)
    refine bodyPost_ret (results_ct rfl _ _ g2 61 #[.bool false, .nilFunc, .nilFunc, .nilFunc] (0, 0) _ rfl (blk_set (blk_set (blk_set (blk_set BK2.out 0 _) 1 _) 2 _) 3 _) Try.underlying61 rfl (by kernel_rfl)) rfl ⟨?_, below_set (below_set (below_set (below_set HB2.out HG2.out) HG2.out) HG2.out) HG2.out⟩
    rw [HK.out]
    rfl
theorem kindCells_shape (k : Int) : ∃ a b c d, kindCells k = [a, b, c, d] ∧ a.oneCell' = true ∧ b.oneCell' = true ∧ c.oneCell' = true ∧ d.oneCell' = true := by
  unfold kindCells
  split <;> exact ⟨_, _, _, _, rfl, rfl, rfl, rfl, rfl⟩
set_option maxRecDepth 100000 in
set_option maxHeartbeats 400000 in
theorem known_in (k j : Int) (w : World) (h0 : 1 ≤ k) (h5 : k ≤ 5) : Calls Try.prog 27 #[.agg #[.int .i64 k, .int .i64 j]] w fun e w' => e = .returned (.tuple #[.agg (kindCells k).toArray, .bool true]) ∧ Below w.heap.size w w' := by
  have h1b : decide (k < 1) = false := decide_eq_false (by omega)
  have h5b : decide (5 < k) = false := decide_eq_false (by omega)
  obtain ⟨ka, kb, kc, kd, hk, h1a, h1b', h1c, h1d⟩ := kindCells_shape k
  have HI := index74 k h0 h5
  rw [hk] at HI
  have HK := Aside0.mk hk
  have sa := fun (u : World) (p : Addr) (m : Mode) => run_store Try.prog u p ka m h1a
  have sb := fun (u : World) (p : Addr) (m : Mode) => run_store Try.prog u p kb m h1b'
  have sc := fun (u : World) (p : Addr) (m : Mode) => run_store Try.prog u p kc m h1c
  have sd := fun (u : World) (p : Addr) (m : Mode) => run_store Try.prog u p kd m h1d
  clear hk h1a h1b' h1c h1d
  go_enter Try.func27, Try.ntmps27
  go_wp2_with (first
    | ((with_reducible refine gate_dst (N := 1) rfl ?_); refine box_event ?hg (N := 1) ?hd (cs := #[.int .i64 k, .int .i64 j]) (t := 23) ?hr ?_; (case hd => rfl); (case hg => rfl); (case hr => first | (go_simp; done) | (go_simp; rfl)); intro g1 hg w1 hbox hb; have GE1 := Aside0.mk (Nat.le_of_eq hg.symm); have BK1 := Aside0.mk hbox; have HX1 := Aside0.mk hb; clear hg hbox hb)
    | (((with_reducible refine gate_dst (N := 2) rfl ?_); refine box_event ?hg (N := 2) ?hd (cs := #[.bool false, .nilFunc, .nilFunc, .nilFunc]) (t := 61) ?hr ?_; (case hd => rfl); (case hg => rfl); (case hr => first | (go_simp; done) | (go_simp; rfl)); intro g2 hg w2 hbox hb; have GE2 := Aside0.mk (Nat.le_of_eq hg.symm); have BK2 := Aside0.mk hbox; have HX2 := Aside0.mk hb; clear hg hbox hb); have BK1b := Aside0.mk (blk_below BK1.out HX2.out); have HB2 := Aside0.mk (below_then HX1.out HX1.out.size HX2.out); (have hg1_0 : w2.cell? ⟨g1, 0, none⟩ = some (.int .i64 k) := (blk_cell BK1b.out 0).trans rfl; have hfg1_0 := blk_frozen BK1b.out 0; have hg1_1 : w2.cell? ⟨g1, 1, none⟩ = some (.int .i64 j) := (blk_cell BK1b.out 1).trans rfl; have hfg1_1 := blk_frozen BK1b.out 1); (have hg2_0 : w2.cell? ⟨g2, 0, none⟩ = some (.bool false) := (blk_cell BK2.out 0).trans rfl; have hfg2_0 := blk_frozen BK2.out 0; have hg2_1 : w2.cell? ⟨g2, 1, none⟩ = some (.nilFunc) := (blk_cell BK2.out 1).trans rfl; have hfg2_1 := blk_frozen BK2.out 1; have hg2_2 : w2.cell? ⟨g2, 2, none⟩ = some (.nilFunc) := (blk_cell BK2.out 2).trans rfl; have hfg2_2 := blk_frozen BK2.out 2; have hg2_3 : w2.cell? ⟨g2, 3, none⟩ = some (.nilFunc) := (blk_cell BK2.out 3).trans rfl; have hfg2_3 := blk_frozen BK2.out 3))
    | fail)
  refine start_ (n := 6) (S := fun w' => w'.cell? ⟨g1, 0, none⟩ = some (.int .i64 k)) (ds := [4]) #[false, false, false, false, false, false] (by kernel_rfl) rfl rfl (hg1_0) (fun hHeld => ?_)
  refine pure_ (i := 1) (N := some 14) (v := ?_) (a' := ?_) #[false, true, false, false, false, false] rfl rfl (by kernel_rfl) (fun _ _ _ h => h) (Or.inl ⟨by rfl, ?_⟩) ?_ ?_
  rotate_left
  · intro w'
    go_simp
    with_reducible rfl
  rotate_left
  · simp only [Act.put, List.setIfInBounds_toArray, List.set_cons_zero, List.set_cons_succ, i64_w, i32_w]
    rfl
  refine take_ (i := 2) (N := some 15) (v := ?_) (a' := ?_) #[false, true, true, false, false, false] rfl rfl (by kernel_rfl) (fun _ _ _ h => h) (Or.inl ⟨by rfl, ?_⟩) hHeld ?_ ?_
  rotate_left
  · intro w' s0
    go_simp
    with_reducible rfl
  rotate_left
  · simp only [Act.put, List.setIfInBounds_toArray, List.set_cons_zero, List.set_cons_succ, i64_w, i32_w]
    rfl
  refine one_ (i := 0) (N := some 13) #[true, true, true, false, false, false] rfl rfl (by kernel_rfl) (by decide) (fun K hK => ?_)
  refine goes_ Try.func39 (by kernel_rfl) rfl #[] (by rfl) rfl rfl (by simp) ?_
  with_reducible refine (kinds_calls _).mono ?_
  rintro e w3 ⟨rfl, hb⟩
  refine ⟨_, rfl, ?_⟩
  have HX3 := Aside0.mk (show Below w2.heap.size w2 w3 from below_then (below_drew (Below.refl w2.heap.size w2)) (Nat.le_refl _) hb)
  have BK1c := Aside0.mk (blk_below BK1b.out HX3.out)
  have BK2c := Aside0.mk (blk_below BK2.out HX3.out)
  (have hg2_0 : w3.cell? ⟨g2, 0, none⟩ = some (.bool false) := (blk_cell BK2c.out 0).trans rfl; have hfg2_0 := blk_frozen BK2c.out 0; have hg2_1 : w3.cell? ⟨g2, 1, none⟩ = some (.nilFunc) := (blk_cell BK2c.out 1).trans rfl; have hfg2_1 := blk_frozen BK2c.out 1; have hg2_2 : w3.cell? ⟨g2, 2, none⟩ = some (.nilFunc) := (blk_cell BK2c.out 2).trans rfl; have hfg2_2 := blk_frozen BK2c.out 2; have hg2_3 : w3.cell? ⟨g2, 3, none⟩ = some (.nilFunc) := (blk_cell BK2c.out 3).trans rfl; have hfg2_3 := blk_frozen BK2c.out 3)
  have h30 : w3.cell? ⟨g1, 0, none⟩ = some (.int .i64 k) := (blk_cell BK1c.out 0).trans rfl
  refine hK.out _ _ (h30) (fun hHeld => ?_)
  clear hK K
  refine norm_ (a' := ?_) ?_ ?_
  rotate_left
  · show Act.put _ (some 13) _ = _
    simp only [Act.put, List.setIfInBounds_toArray, List.set_cons_zero, List.set_cons_succ, i64_w, i32_w]
    rfl
  refine take_ (i := 3) (N := some 16) (v := ?_) (a' := ?_) #[true, true, true, true, false, false] rfl rfl (by kernel_rfl) (fun _ _ _ h => h) (Or.inl ⟨by rfl, ?_⟩) hHeld ?_ ?_
  rotate_left
  · intro w' s0
    go_simp
    with_reducible rfl
  rotate_left
  · simp only [Act.put, List.setIfInBounds_toArray, List.set_cons_zero, List.set_cons_succ, i64_w, i32_w]
    rfl
  refine last_ (i := 4) (N := none) #[true, true, true, true, true, false] rfl rfl (by kernel_rfl) (by decide) (fun K hK => ?_)
  refine skip_ (w1 := ?_) (by rfl) rfl ?_ ?_
  rotate_left
  · go_simp
    rfl
  refine hK.out _ _ ?_
  clear hK K
  refine pure_ (i := 5) (N := some 3) (v := ?_) (a' := ?_) #[true, true, true, true, true, true] rfl rfl (by kernel_rfl) (fun _ _ _ h => h) (Or.inl ⟨by rfl, ?_⟩) ?_ ?_
  rotate_left
  · intro w'
    go_simp
    with_reducible rfl
  rotate_left
  · simp only [Act.put, List.setIfInBounds_toArray, List.set_cons_zero, List.set_cons_succ, i64_w, i32_w]
    rfl
  refine done_ (by kernel_rfl) ?_
  go_wp2_with fail
  have HG2 := Aside0.mk (Nat.le_trans HX1.out.size GE2.out)
  have HB3 := Aside0.mk (below_then HB2.out HB2.out.size HX3.out)
  refine bodyPost_ret (results_ct rfl _ _ g2 61 #[ka, kb, kc, kd] (0, 0) _ rfl (blk_set (blk_set (blk_set (blk_set BK2c.out 0 _) 1 _) 2 _) 3 _) Try.underlying61 rfl (by kernel_rfl)) rfl ⟨?_, below_set (below_set (below_set (below_set HB3.out HG2.out) HG2.out) HG2.out) HG2.out⟩
  rw [HK.out]
  rfl
end Go.Proofs.Ytmjhgeinhhhodaa.P
end

section
namespace Go.Proofs.Ytmjhgeinhhhodaa.P
set_option linter.unusedVariables false
set_option linter.unusedSimpArgs false
open Go.RowKit Go.Proofs.YtmjhgeinhhhodaaW.PrintWords Go.Proofs.YtmjhgeinhhhodaaW.PrintLast Go.Proofs.YtmjhgeinhhhodaaW.PrintMore Go.Proofs.Ytmjhgeinhhhodaa.Lib
set_option maxRecDepth 100000 in
set_option maxHeartbeats 400000 in
theorem val_count (n v : Int) (A : Option Addr) (l c : Nat) (w : World) :
    Calls Try.prog 48 #[.agg #[.int .u64 n, .int .i64 v, .slice A l c]] w fun e w' => e = .returned (.int .i64 (wrap64 n)) ∧ Below w.heap.size w w' := by
  go_enter Try.func48, Try.ntmps48
  go_wp2
  go_ret
  exact ⟨rfl, (Below.refl _ _).alloc (Nat.le_refl _) _⟩
set_option maxRecDepth 100000 in
set_option maxHeartbeats 400000 in
theorem val_v (n v : Int) (A : Option Addr) (l c : Nat) (w : World) :
    Calls Try.prog 51 #[.agg #[.int .u64 n, .int .i64 v, .slice A l c]] w fun e w' => e = .returned (.int .i64 v) ∧ Below w.heap.size w w' := by
  go_enter Try.func51, Try.ntmps51
  go_wp2
  go_ret
  exact ⟨rfl, (Below.refl _ _).alloc (Nat.le_refl _) _⟩
set_option maxRecDepth 100000 in
set_option maxHeartbeats 400000 in
theorem val_len (n v : Int) (A : Option Addr) (l c : Nat) (w : World) :
    Calls Try.prog 54 #[.agg #[.int .u64 n, .int .i64 v, .slice A l c]] w fun e w' => e = .returned (.int .i64 l) ∧ Below w.heap.size w w' := by
  go_enter Try.func54, Try.ntmps54
  go_wp2
  go_ret
  exact ⟨rfl, (Below.refl _ _).alloc (Nat.le_refl _) _⟩
def agg_Value.f (a0_0 : Int) (a0_1 : Int) (a1_0 : Int) (a1_1 : Int) (l1_2 : List ByteArray) : Option Int :=
  some (if a0_0 = 1 then wrap64 a1_0 else if a0_0 = 2 ∨ a0_0 = 3 ∨ a0_0 = 4 then a1_1 else if a0_0 = 5 then (l1_2.length : Int) else 0)
theorem store_fact {v : Value} (h : v.oneCell' = true) (u : World) (p : Addr) (m : Mode) : (store p v m).run Try.prog u = stored Try.prog u p v m := run_store Try.prog u p v m h
def Knows (k j : Int) (cells : Array Value) (th : Bool) : Prop := ∀ u, Calls Try.prog 27 #[.agg #[.int .i64 k, .int .i64 j]] u fun e w' => e = .returned (.tuple #[.agg cells, .bool th]) ∧ Below u.heap.size u w'
theorem knows_out {k j : Int} (h : k < 1 ∨ 5 < k) : Knows k j #[.bool false, .nilFunc, .nilFunc, .nilFunc] false := fun u => by
  have := known_out k j u h
  rw [kindCells_out h] at this
  exact this
theorem knows_in {k j : Int} {l : List Value} (h : 1 ≤ k) (h5 : k ≤ 5) (e : kindCells k = l) : Knows k j l.toArray true := fun u => by
  have := known_in k j u h h5
  rw [e] at this
  exact this
set_option maxRecDepth 100000 in
set_option maxHeartbeats 400000 in
theorem value_out (a0_0 : Int) (a0_1 : Int) (a1_0 : Int) (a1_1 : Int) (A1_2 : Option Addr) (c1_2 : Nat) (l : Nat) (w : World) (HC : Knows a0_0 a0_1 #[.bool false, .nilFunc, .nilFunc, .nilFunc] false) :
    Calls Try.prog 15 #[.agg #[.int .i64 a0_0, .int .i64 a0_1], .agg #[.int .u64 a1_0, .int .i64 a1_1, .slice A1_2 l c1_2]] w fun e w' => e = .returned (.int .i64 0) ∧ Below w.heap.size w w' := by
  go_enter Try.func15, Try.ntmps15
  go_wp2_with (first
    | ((with_reducible refine gate_dst (N := 2) rfl ?_); refine box_event ?hg (N := 2) ?hd (cs := #[.int .i64 a0_0, .int .i64 a0_1]) (t := 23) ?hr ?_; (case hd => rfl); (case hg => rfl); (case hr => first | (go_simp; done) | (go_simp; rfl)); intro g1 hg w1 hbox hb; have GE1 := Aside0.mk (Nat.le_of_eq hg.symm); have BK1 := Aside0.mk hbox; have HX1 := Aside0.mk hb; clear hg hbox hb)
    | (((with_reducible refine gate_dst (N := 3) rfl ?_); refine box_event ?hg (N := 3) ?hd (cs := #[.int .u64 a1_0, .int .i64 a1_1, .slice A1_2 l c1_2]) (t := 33) ?hr ?_; (case hd => rfl); (case hg => rfl); (case hr => first | (go_simp; done) | (go_simp; rfl)); intro g2 hg w2 hbox hb; have GE2 := Aside0.mk (Nat.le_of_eq hg.symm); have BK2 := Aside0.mk hbox; have HX2 := Aside0.mk hb; clear hg hbox hb); have BK1b := Aside0.mk (blk_below BK1.out HX2.out); have HB2 := Aside0.mk (below_then HX1.out HX1.out.size HX2.out); (have hg1_0 : w2.cell? ⟨g1, 0, none⟩ = some (.int .i64 a0_0) := (blk_cell BK1b.out 0).trans rfl; have hfg1_0 := blk_frozen BK1b.out 0; have hg1_1 : w2.cell? ⟨g1, 1, none⟩ = some (.int .i64 a0_1) := (blk_cell BK1b.out 1).trans rfl; have hfg1_1 := blk_frozen BK1b.out 1))
    | (go_at_call 27; refine (HC _).mono ?_; rintro e w3 ⟨rfl, hb3⟩; have HX3 := Aside0.mk hb3; clear hb3)
    | (((with_reducible refine gate_dst (N := 5) rfl ?_); refine box_event ?hg (N := 5) ?hd (cs := #[.bool false, .nilFunc, .nilFunc, .nilFunc]) (t := 61) ?hr ?_; (case hd => rfl); (case hg => rfl); (case hr => first | (go_simp; done) | (go_simp; rfl)); intro g4 hg w4 hbox hb; have GE4 := Aside0.mk (Nat.le_of_eq hg.symm); have BK4 := Aside0.mk hbox; have HX4 := Aside0.mk hb; clear hg hbox hb); (have hg4_0 : w4.cell? ⟨g4, 0, none⟩ = some (.bool false) := (blk_cell BK4.out 0).trans rfl; have hfg4_0 := blk_frozen BK4.out 0; have hg4_1 : w4.cell? ⟨g4, 1, none⟩ = some (.nilFunc) := (blk_cell BK4.out 1).trans rfl; have hfg4_1 := blk_frozen BK4.out 1; have hg4_2 : w4.cell? ⟨g4, 2, none⟩ = some (.nilFunc) := (blk_cell BK4.out 2).trans rfl; have hfg4_2 := blk_frozen BK4.out 2; have hg4_3 : w4.cell? ⟨g4, 3, none⟩ = some (.nilFunc) := (blk_cell BK4.out 3).trans rfl; have hfg4_3 := blk_frozen BK4.out 3))
    | fail)
  have HB4 := Aside0.mk (below_then (below_then HB2.out HB2.out.size HX3.out) (Nat.le_trans HB2.out.size HX3.out.size) HX4.out)
  have HG4 := Aside0.mk (Nat.le_trans HB2.out.size (Nat.le_trans HX3.out.size GE4.out))
  go_ret
  exact ⟨rfl, below_set (below_set (below_set (below_set HB4.out HG4.out) HG4.out) HG4.out) HG4.out⟩
set_option maxRecDepth 100000 in
set_option maxHeartbeats 400000 in
theorem value_in (a0_0 : Int) (a0_1 : Int) (a1_0 : Int) (a1_1 : Int) (A1_2 : Option Addr) (c1_2 : Nat) (l : Nat) (w : World) (ka kb kc : Value) (m : Nat) (f : Func) (hf : Try.prog.funcs[m]? = some f) (hname : (f.name == "runtime.NumGoroutine") = false) (hbody : f.body.isSome = true) (r : Int) (HC : Knows a0_0 a0_1 #[ka, kb, kc, fn m] true)
    (h1 : ka.oneCell' = true) (h2 : kb.oneCell' = true) (h3 : kc.oneCell' = true)
    (HV : Aside0 (∀ u, Calls Try.prog m #[.agg #[.int .u64 a1_0, .int .i64 a1_1, .slice A1_2 l c1_2]] u fun e w' => e = .returned (.int .i64 r) ∧ Below u.heap.size u w')) :
    Calls Try.prog 15 #[.agg #[.int .i64 a0_0, .int .i64 a0_1], .agg #[.int .u64 a1_0, .int .i64 a1_1, .slice A1_2 l c1_2]] w fun e w' => e = .returned (.int .i64 r) ∧ Below w.heap.size w w' := by
  have he := enters_ hf hname hbody
  clear hf hname hbody
  have sa := store_fact h1
  have sb := store_fact h2
  have sc := store_fact h3
  clear h1 h2 h3
  go_enter Try.func15, Try.ntmps15
  go_wp2_with (first
    | ((with_reducible refine gate_dst (N := 2) rfl ?_); refine box_event ?hg (N := 2) ?hd (cs := #[.int .i64 a0_0, .int .i64 a0_1]) (t := 23) ?hr ?_; (case hd => rfl); (case hg => rfl); (case hr => first | (go_simp; done) | (go_simp; rfl)); intro g1 hg w1 hbox hb; have GE1 := Aside0.mk (Nat.le_of_eq hg.symm); have BK1 := Aside0.mk hbox; have HX1 := Aside0.mk hb; clear hg hbox hb)
    | (((with_reducible refine gate_dst (N := 3) rfl ?_); refine box_event ?hg (N := 3) ?hd (cs := #[.int .u64 a1_0, .int .i64 a1_1, .slice A1_2 l c1_2]) (t := 33) ?hr ?_; (case hd => rfl); (case hg => rfl); (case hr => first | (go_simp; done) | (go_simp; rfl)); intro g2 hg w2 hbox hb; have GE2 := Aside0.mk (Nat.le_of_eq hg.symm); have BK2 := Aside0.mk hbox; have HX2 := Aside0.mk hb; clear hg hbox hb); have BK1b := Aside0.mk (blk_below BK1.out HX2.out); have HB2 := Aside0.mk (below_then HX1.out HX1.out.size HX2.out); (have hg1_0 : w2.cell? ⟨g1, 0, none⟩ = some (.int .i64 a0_0) := (blk_cell BK1b.out 0).trans rfl; have hfg1_0 := blk_frozen BK1b.out 0; have hg1_1 : w2.cell? ⟨g1, 1, none⟩ = some (.int .i64 a0_1) := (blk_cell BK1b.out 1).trans rfl; have hfg1_1 := blk_frozen BK1b.out 1))
    | (go_at_call 27; refine (HC _).mono ?_; rintro e w3 ⟨rfl, hb3⟩; have BK2b := Aside0.mk (blk_below BK2.out hb3); have HX3 := Aside0.mk hb3; clear hb3)
    | (((with_reducible refine gate_dst (N := 5) rfl ?_); refine box_event ?hg (N := 5) ?hd (cs := #[.bool false, .nilFunc, .nilFunc, .nilFunc]) (t := 61) ?hr ?_; (case hd => rfl); (case hg => rfl); (case hr => first | (go_simp; done) | (go_simp; rfl)); intro g4 hg w4 hbox hb; have GE4 := Aside0.mk (Nat.le_of_eq hg.symm); have BK4 := Aside0.mk hbox; have HX4 := Aside0.mk hb; clear hg hbox hb); have BK2c := Aside0.mk (blk_below BK2b.out HX4.out); (have hg4_0 : w4.cell? ⟨g4, 0, none⟩ = some (.bool false) := (blk_cell BK4.out 0).trans rfl; have hfg4_0 := blk_frozen BK4.out 0; have hg4_1 : w4.cell? ⟨g4, 1, none⟩ = some (.nilFunc) := (blk_cell BK4.out 1).trans rfl; have hfg4_1 := blk_frozen BK4.out 1; have hg4_2 : w4.cell? ⟨g4, 2, none⟩ = some (.nilFunc) := (blk_cell BK4.out 2).trans rfl; have hfg4_2 := blk_frozen BK4.out 2; have hg4_3 : w4.cell? ⟨g4, 3, none⟩ = some (.nilFunc) := (blk_cell BK4.out 3).trans rfl; have hfg4_3 := blk_frozen BK4.out 3); (have hg2_0 : w4.cell? ⟨g2, 0, none⟩ = some (.int .u64 a1_0) := (blk_cell BK2c.out 0).trans rfl; have hfg2_0 := blk_frozen BK2c.out 0; have hg2_1 : w4.cell? ⟨g2, 1, none⟩ = some (.int .i64 a1_1) := (blk_cell BK2c.out 1).trans rfl; have hfg2_1 := blk_frozen BK2c.out 1; have hg2_2 : w4.cell? ⟨g2, 2, none⟩ = some (.slice A1_2 l c1_2) := (blk_cell BK2c.out 2).trans rfl; have hfg2_2 := blk_frozen BK2c.out 2); have hne : g2 ≠ g4 := by (have := blk_lt BK2b.out; have := GE4.out; omega))
    | fail)
  have HB4 := Aside0.mk (below_then (below_then HB2.out HB2.out.size HX3.out) (Nat.le_trans HB2.out.size HX3.out.size) HX4.out)
  have HG4 := Aside0.mk (Nat.le_trans HB2.out.size (Nat.le_trans HX3.out.size GE4.out))
  refine (HV.out _).mono ?_
  rintro e w5 ⟨rfl, hb5⟩
  have HB5 := Aside0.mk (below_then (below_set (below_set (below_set (below_set HB4.out HG4.out) HG4.out) HG4.out) HG4.out) (by simp; exact HB4.out.size) hb5)
  clear hb5
  go_wp2_with fail
  go_ret
  exact ⟨rfl, HB5.out⟩
theorem agg_Value.calls (a0_0 : Int) (a0_1 : Int) (a1_0 : Int) (a1_1 : Int) (A1_2 : Option Addr) (c1_2 : Nat) (l1_2 : List ByteArray) (r : Int) (w : World) (hr1_2 : Kd.C Kd.string w A1_2 l1_2.length l1_2) (hc1_2 : l1_2.length ≤ c1_2) (h : agg_Value.f a0_0 a0_1 a1_0 a1_1 l1_2 = some r) :
    Calls Try.prog 15 #[.agg #[.int .i64 a0_0, .int .i64 a0_1], .agg #[.int .u64 a1_0, .int .i64 a1_1, .slice A1_2 l1_2.length c1_2]] w fun e w' => e = .returned (.int .i64 r) ∧ Below w.heap.size w w' := by
  unfold agg_Value.f at h
  injection h with h
  subst h
  by_cases ho : a0_0 < 1 ∨ 5 < a0_0
  · rw [if_neg (by omega), if_neg (by omega), if_neg (by omega)]
    exact value_out _ _ _ _ _ _ _ _ (knows_out ho)
  · have hk : a0_0 = 1 ∨ a0_0 = 2 ∨ a0_0 = 3 ∨ a0_0 = 4 ∨ a0_0 = 5 := by omega
    rcases hk with rfl | rfl | rfl | rfl | rfl
    · exact value_in 1 _ _ _ _ _ _ _ _ _ _ _ _ Try.func48 (by kernel_rfl) (by kernel_rfl) _ (knows_in (by omega) (by omega) rfl) rfl rfl rfl ⟨fun u => val_count _ _ _ _ _ u⟩
    · exact value_in 2 _ _ _ _ _ _ _ _ _ _ _ _ Try.func51 (by kernel_rfl) (by kernel_rfl) _ (knows_in (by omega) (by omega) rfl) rfl rfl rfl ⟨fun u => val_v _ _ _ _ _ u⟩
    · exact value_in 3 _ _ _ _ _ _ _ _ _ _ _ _ Try.func51 (by kernel_rfl) (by kernel_rfl) _ (knows_in (by omega) (by omega) rfl) rfl rfl rfl ⟨fun u => val_v _ _ _ _ _ u⟩
    · exact value_in 4 _ _ _ _ _ _ _ _ _ _ _ _ Try.func51 (by kernel_rfl) (by kernel_rfl) _ (knows_in (by omega) (by omega) rfl) rfl rfl rfl ⟨fun u => val_v _ _ _ _ _ u⟩
    · exact value_in 5 _ _ _ _ _ _ _ _ _ _ _ _ Try.func54 (by kernel_rfl) (by kernel_rfl) _ (knows_in (by omega) (by omega) rfl) rfl rfl rfl ⟨fun u => val_len _ _ _ _ _ u⟩
end Go.Proofs.Ytmjhgeinhhhodaa.P
end

section
namespace Go.Proofs.Ytmjhgeinhhhodaa.P
open Go.RowKit Go.Proofs.YtmjhgeinhhhodaaW.PrintWords Go.Proofs.YtmjhgeinhhhodaaW.PrintLast Go.Proofs.YtmjhgeinhhhodaaW.PrintMore
attribute [local go_sem] max2_int min2_int max_two min_two max_three min_three max_four min_four   -- for this text's walks alone
set_option linter.unusedVariables false
set_option linter.unusedSimpArgs false
open Go.Proofs.Ytmjhgeinhhhodaa.Ext (q1_ q2_ q3_ bk_ bw_ sz_ ne_ bx_)
attribute [local go_sem high] Go.Proofs.Ytmjhgeinhhhodaa.Ext.gtr_str Go.Proofs.Ytmjhgeinhhhodaa.Ext.leq_str Go.Proofs.Ytmjhgeinhhhodaa.Ext.geq_str
mutual
def slices_Concat_string_string.l0 : Nat → List (List ByteArray) → Int → List (List ByteArray) → Int → Int → Option (List ByteArray)
 | 0, _, _, _, _, _ => none
 | k + 1, x0, x3, x9, x10, x11 => if x11 < x10 then (if 0 ≤ x11 then (if x11 < (x9.length : Int) then (if (wrap64 (x3 + ((rd_L2 x9 x11).length : Int))) < 0 then (none) else (slices_Concat_string_string.l0 k x0 (wrap64 (x3 + ((rd_L2 x9 x11).length : Int))) x9 x10 (wrap64 (x11 + 1)))) else (none)) else (none)) else ((slices_Grow_string_string_at_nil.f x3).bind fun t102 => (slices_Concat_string_string.l1 k t102 x0 (x0.length : Int) 0))
def slices_Concat_string_string.l1 : Nat → List ByteArray → List (List ByteArray) → Int → Int → Option (List ByteArray)
 | 0, _, _, _, _ => none
 | k + 1, x6, x25, x26, x27 => if x27 < x26 then (if 0 ≤ x27 then (if x27 < (x25.length : Int) then (if x6.length + (rd_L2 x25 x27).length < 8796093022208 then (slices_Concat_string_string.l1 k (x6 ++ (rd_L2 x25 x27)) x25 x26 (wrap64 (x27 + 1))) else (none)) else (none)) else (none)) else (some x6)
end
def slices_Concat_string_string.f (k : Nat) (l0 : List (List ByteArray)) : Option (List ByteArray) := slices_Concat_string_string.l0 k l0 0 l0 (l0.length : Int) 0
set_option maxHeartbeats 8000000 in
set_option maxRecDepth 100000 in
theorem slices_Concat_string_string.calls (k : Nat) (A0 : Option Addr) (c0 : Nat) (l0 : List (List ByteArray)) (r : List ByteArray) (w : World) (hr0 : Kd.C (Kd.slice 9 Kd.string) w A0 l0.length l0) (hc0 : l0.length ≤ c0) (h : slices_Concat_string_string.f k l0 = some r) :
  Calls Try.prog 28 #[.slice A0 l0.length c0] w fun e w' => ∃ v0_ : Value, e = .returned (v0_) ∧ Kd.R Kd.string 9 w' w.heap.size (fun _ => True) v0_ r ∧ Below w.heap.size w w' := by
 have HR0 := Aside0.mk hr0
 have HC0 := Aside0.mk hc0
 clear hr0 hc0
 have HB := Aside0.mk (Below.refl w.heap.size w)
 have H : (slices_Concat_string_string.l0 k l0 0 l0 (l0.length : Int) 0) = some r := h
 clear h
 have H' := Aside0.mk H
 clear H
 go_enter Try.func28, Try.ntmps28
 go_wp2
 go_loopg [3, 11] k (fun kq v3 v11 w' => ∃ (x3_1 : Int) (x11_1 : Int), v3 = .int .i64 x3_1 ∧ v11 = .int .i64 x11_1 ∧ Aside0 (slices_Concat_string_string.l0 kq l0 x3_1 l0 (l0.length : Int) x11_1 = some r) ∧ Aside0 (kq ≤ k) ∧ Aside0 (Below w.heap.size w w'))
 case atStart => exact ⟨(0), (0), (by first | rfl | (simp; done) | (simp [*]; done)), (by first | rfl | (simp; done) | (simp [*]; done)), H', ⟨Nat.le_refl _⟩, ⟨by repeat (first | (with_reducible first | exact HB.out | apply below_alloc | apply pw_below_drewN | apply below_drew1) | exact HB.out)⟩⟩
 case round =>
  clear H'
  obtain ⟨x3_1, x11_1, rfl, rfl, HA, HK1, HB⟩ := hrel
  cases gk with
  | zero => exact absurd HA.out (by simp [slices_Concat_string_string.l0])
  | succ k1 =>
   have H := HA.out
   clear HA
   simp only [slices_Concat_string_string.l0] at H
   by_cases c2 : x11_1 < (l0.length : Int)
   ·rw [if_pos c2] at H
    have c2b0 : decide (x11_1 < (l0.length : Int)) = true := decide_eq_true c2
    clear c2
    by_cases c3 : 0 ≤ x11_1
    ·rw [if_pos c3] at H
     have c3b0 : decide (0 ≤ x11_1) = true := decide_eq_true c3
     clear c3
     by_cases c4 : x11_1 < (l0.length : Int)
     ·rw [if_pos c4] at H
      have c4b0 : decide (x11_1 < (l0.length : Int)) = true := decide_eq_true c4
      clear c4
      by_cases c5 : (wrap64 (x3_1 + ((rd_L2 l0 x11_1).length : Int))) < 0
      ·rw [if_pos c5] at H
       exact absurd H (by simp)
      ·rw [if_neg c5] at H
       have c5b0 : decide ((wrap64 (x3_1 + ((rd_L2 l0 x11_1).length : Int))) < 0) = false := decide_eq_false c5
       clear c5
       have H' := Aside0.mk H
       clear H
       have p101 : 0 ≤ (x11_1 : Int) := of_decide_eq_true (by assumption)
       have q101 : x11_1 < (l0.length : Int) := of_decide_eq_true (by assumption)
       obtain ⟨ad101, A101_0, c101_0, e101, hx101_0, hl101_0, hi101_0⟩ := at_L2 HR0.out x11_1 p101 q101
       cases e101
       replace hx101_0 := pw_cell_below HB.out hx101_0
       have HR101_0 := Aside0.mk hi101_0
       have HC101_0 := Aside0.mk hl101_0
       clear hi101_0 hl101_0
       replace p101 := eq_true p101
       replace q101 := eq_true q101
       go_wp2
       go_roundg k1
       case measure => have := HK1.out; omega
       case rel => exact ⟨(wrap64 (x3_1 + ((rd_L2 l0 x11_1).length : Int))), (wrap64 (x11_1 + 1)), (by first | rfl | (simp; done) | (simp [*]; done)), (by first | rfl | (simp; done) | (simp [*]; done)), H', ⟨by have := HK1.out; omega⟩, ⟨by repeat (first | (with_reducible first | exact HB.out | apply below_alloc | apply pw_below_drewN | apply below_drew1) | exact HB.out)⟩⟩
     ·rw [if_neg c4] at H
      exact absurd H (by simp)
    ·rw [if_neg c3] at H
     exact absurd H (by simp)
   ·rw [if_neg c2] at H
    have c2b0 : decide (x11_1 < (l0.length : Int)) = false := decide_eq_false c2
    clear c2
    replace H := Option.bind_eq_some_iff.mp H
    obtain ⟨t102, A60, H⟩ := H
    replace H : (slices_Concat_string_string.l1 k1 t102 l0 (l0.length : Int) 0) = some r := H
    have A6 := Aside0.mk A60
    clear A60
    have H' := Aside0.mk H
    clear H
    go_wp2_with (first | ((with_reducible refine gate_callee (f := 40) rfl ?_); refine goesL_ (some 24) rfl rfl Try.func40 (by kernel_rfl) rfl #[.slice none 0 0, .int .i64 x3_1] rfl (by (try simp only [List.map_toArray, List.map_cons, List.map_nil]); first | done | rfl | (simp only [List.length_drop, List.length_take]; rfl)) ?_; (with_reducible refine (slices_Grow_string_string_at_nil.calls x3_1 t102 _ A6.out).mono ?_); rintro e w7 ⟨v103, rfl, ho0, hb⟩; refine ⟨_, rfl, ?_⟩; have n0_ := Aside0.mk (Kd.R_lower ho0 (below_size (bw_ HB.out))); have n1_ := Aside0.mk (below_step (bw_ HB.out) hb); clear HB; have HO104 := n0_; have HB := n1_; clear n0_ n1_; (try clear hb); (try clear hb2); (try clear hk); (try clear hi); (try clear ho0)))
    go_loopg [6, 27] k1 (fun kq v6 v27 w' => ∃ (x6_2 : List ByteArray) (x27_2 : Int), v27 = .int .i64 x27_2 ∧ Aside0 (slices_Concat_string_string.l1 kq x6_2 l0 (l0.length : Int) x27_2 = some r) ∧ Aside0 (kq ≤ k1) ∧ Aside0 (Kd.R Kd.string 9 w' w.heap.size (fun _ => True) v6 x6_2) ∧ Aside0 (Below w.heap.size w w'))
    case atStart => exact ⟨(t102), (0), (by first | rfl | (simp; done) | (simp [*]; done)), H', ⟨Nat.le_refl _⟩, ⟨by (with_reducible repeat (first | apply Kd.R_alloc | apply Kd.R_drewN | apply Kd.R_drew)); exact HO104.out⟩, ⟨by repeat (first | (with_reducible first | exact HB.out | apply below_alloc | apply pw_below_drewN | apply below_drew1) | exact HB.out)⟩⟩
    case round =>
     clear H'
     try clear c1
     try clear p1
     try clear q1
     try clear hx1
     try clear c2
     try clear c2b0
     try clear p2
     try clear c3
     try clear c3b0
     try clear c4
     try clear c4b0
     try clear c5
     try clear c5b0
     try clear p6
     try clear hx101_0
     try clear p101
     try clear q101
     obtain ⟨x6_2, x27_2, rfl, HA, HK2, HO_6, HB⟩ := hrel
     cases gk with
     | zero => exact absurd HA.out (by simp [slices_Concat_string_string.l1])
     | succ k2 =>
      have H := HA.out
      clear HA
      simp only [slices_Concat_string_string.l1] at H
      by_cases c8 : x27_2 < (l0.length : Int)
      ·rw [if_pos c8] at H
       have c8b0 : decide (x27_2 < (l0.length : Int)) = true := decide_eq_true c8
       clear c8
       by_cases c9 : 0 ≤ x27_2
       ·rw [if_pos c9] at H
        have c9b0 : decide (0 ≤ x27_2) = true := decide_eq_true c9
        clear c9
        by_cases c10 : x27_2 < (l0.length : Int)
        ·rw [if_pos c10] at H
         have c10b0 : decide (x27_2 < (l0.length : Int)) = true := decide_eq_true c10
         clear c10
         by_cases c11 : x6_2.length + (rd_L2 l0 x27_2).length < 8796093022208
         ·rw [if_pos c11] at H
          have LMc11 := Aside0.mk c11
          clear c11
          obtain ⟨y106, hy106⟩ : ∃ y_ : List ByteArray, y_ = (x6_2 ++ (rd_L2 l0 x27_2)) := ⟨_, rfl⟩
          replace H : (slices_Concat_string_string.l1 k2 y106 l0 (l0.length : Int) (wrap64 (x27_2 + 1))) = some r := by first | (rw [hy106]; with_reducible exact H) | (have H2_ := (Option.bind_some _ _).symm.trans H; rw [hy106]; with_reducible exact H2_) | (have H2_ := (Option.bind_some _ _).symm.trans H; with_reducible exact H2_) | with_reducible exact H | (rw [hy106]; exact H) | exact H
          have Ny106 := Aside0.mk hy106
          clear hy106
          have H' := Aside0.mk H
          clear H
          have p105 : 0 ≤ (x27_2 : Int) := of_decide_eq_true (by assumption)
          have q105 : x27_2 < (l0.length : Int) := of_decide_eq_true (by assumption)
          obtain ⟨ad105, A105_0, c105_0, e105, hx105_0, hl105_0, hi105_0⟩ := at_L2 HR0.out x27_2 p105 q105
          cases e105
          replace hx105_0 := pw_cell_below HB.out hx105_0
          have HR105_0 := Aside0.mk hi105_0
          have HC105_0 := Aside0.mk hl105_0
          clear hi105_0 hl105_0
          replace p105 := eq_true p105
          replace q105 := eq_true q105
          go_wp2_with (first | ((with_reducible refine gate_builtin (b := .append) (xs := #[.tmp 31, .tmp 32]) rfl ?_); at_builtin; refine Kd.R_append_rows Kd.string (w0 := w) w.heap.size rfl (.tmp 31) (.tmp 32) 31 9 (.string ⟨#[]⟩) 16 rfl Try.underlying31 info9 rfl (by decide) (by omega) u6 x6_2 (rd_L2 l0 x27_2) _ _ _ (fun _ => True) (fun _ => False) rfl rfl ?aO ?aR (fun _ _ h => h) (fun _ h => h.elim) ?aF ?aB ?aS ?aL ?_; (case aR => repeat (first | exact (Kd.C_below HR105_0.out HB.out) | (with_reducible refine Kd.C_alloc ?_ _) | (with_reducible refine Kd.C_drewN ?_ _) | (with_reducible refine Kd.C_drew ?_))); (case aB => exact (bw_ HB.out)); (case aF => exact (fun _ _ => trivial)); (case aO => exact (by (with_reducible repeat (first | apply Kd.R_alloc | apply Kd.R_drewN | apply Kd.R_drew)); exact HO_6.out)); (case aS => exact (below_size (bw_ HB.out))); (case aL => have := LMc11.out; omega); intro v107 w12 ho hb hg hat; rw [← Ny106.out] at ho; have n0_ := Aside0.mk (hb); have n1_ := Aside0.mk (ho); clear HB HO_6; have HB := n0_; have HO108 := n1_; clear n0_ n1_; clear ho hb hg hat))
          go_roundg k2
          case measure => have := HK1.out; have := HK2.out; omega
          case rel => exact ⟨(y106), (wrap64 (x27_2 + 1)), (by first | rfl | (simp; done) | (simp [*]; done)), H', ⟨by have := HK1.out; have := HK2.out; omega⟩, ⟨by (with_reducible repeat (first | apply Kd.R_alloc | apply Kd.R_drewN | apply Kd.R_drew)); exact HO108.out⟩, ⟨by repeat (first | (with_reducible first | exact HB.out | apply below_alloc | apply pw_below_drewN | apply below_drew1) | exact HB.out)⟩⟩
         ·rw [if_neg c11] at H
          exact absurd H (by simp)
        ·rw [if_neg c10] at H
         exact absurd H (by simp)
       ·rw [if_neg c9] at H
        exact absurd H (by simp)
      ·rw [if_neg c8] at H
       have c8b0 : decide (x27_2 < (l0.length : Int)) = false := decide_eq_false c8
       clear c8
       obtain rfl := Option.some.inj H
       go_wp2
       go_ret
       exact ⟨_, by first | rfl | (simp [errW_none, errW_some] <;> rfl) | (simp [*, errW_none, errW_some] <;> rfl), by (with_reducible repeat (first | apply Kd.R_alloc | apply Kd.R_drewN | apply Kd.R_drew)); exact HO_6.out, by repeat (first | (with_reducible first | exact HB.out | apply below_alloc | apply pw_below_drewN | apply below_drew1) | exact HB.out)⟩
end Go.Proofs.Ytmjhgeinhhhodaa.P
end
