/- Texts of this repo, joined, without what this claim does not use: DkOps8, Shelf, DkAwake, DkLook, DkFullP, DkFull, OpenK, LawDiskFull. -/
import Derived.Test.YtabomfmjepmkjaaDDiskFull1
import Derived.Shelf.Small.Bits
import Derived.Shelf.Strconv.Itoa0
import Derived.Shelf.Sort.Plain
import Derived.Shelf.Strings.Prefix
import Derived.Shelf.Slices.In.SortNone
import Derived.Test.YtabomfmjepmkjaaProg
import Derived.SizedLaws
import Derived.Deep.Slices
import Derived.Test.YtabomfmjepmkjaaRows
import Derived.ProofKit
import Derived.OpenShut
section
namespace Go.Proofs.Ytabomfmjepmkjaa.Dk
set_option linter.unusedVariables false
set_option linter.unusedSimpArgs false
open Go.RowKit Go.Proofs.YtabomfmjepmkjaaW.PrintWords Go.Proofs.YtabomfmjepmkjaaW.PrintLast Go.Proofs.YtabomfmjepmkjaaW.PrintMore Go.Proofs.Ytabomfmjepmkjaa.Lib Go.Proofs.Ytabomfmjepmkjaa.Mem Go.Proofs.Ytabomfmjepmkjaa.Txt
open Go.MapKept Go.ChangeMaps
theorem removeF_is {w : World} {ok : Nat → Prop} {p mb clock : Nat} {s : DS} {ms : List FM} {m : FM} (h : DkMs w ok p s mb clock ms) {i : Nat} (hi : ms[i]? = some m) : delF s.fs m.name = s.fs.eraseIdx i := h.del_yes hi
theorem block_only {w w' : World} {g p : Nat} {o o2 : Obj} (h : w.heap[g]? = some o) (h2 : w.heap[p]? = some o2) (hne : o ≠ o2) (ho : Only (fun k => k = p) w w') : w'.heap[g]? = some o := (ho.block g (blk_lt h) (ne_kind h h2 hne)).trans h
set_option maxRecDepth 100000 in
set_option maxHeartbeats 1600000 in
theorem remove_no (w : World) (ok : Nat → Prop) (p : Nat) (s : DS) (nm : T) (h : DkAt w ok p s) (hs : Shorts [nm]) (hr : refuse s true [nm] ≠ 0) :
    Calls Try.prog 16 #[.pointer (some ⟨p, 0, none⟩), .string (bs nm)] w fun e w' => e = .returned (.int .i64 (refuse s true [nm])) ∧ Below w.heap.size w w' := by
  have HR := Aside0.mk (fun w' A c (hb : Below w.heap.size w w') (hC : text.C w' A 1 [nm]) => refused_calls w' ok p 1 c s true A [nm] (h.below hb) hC hs (by simp))
  have hb0 : (refuse s true [nm] == 0) = false := beq_eq_false_iff_ne.2 hr
  have hne : (refuse s true [nm] != 0) = true := bne_iff_ne.2 hr
  generalize refuse s true [nm] = r at *
  clear h hs hr
  go_enter Try.func16, Try.ntmps16
  go_upto_region 1 with (first | ((with_reducible refine gate_dst (N := 2) rfl ?_); refine box_event ?hg (N := 2) ?hd (cs := #[.pointer (some ⟨p, 0, none⟩)]) (t := 24) ?hr ?_; (case hd => rfl); (case hg => rfl); (case hr => first | (go_simp; done) | (go_simp; rfl)); intro g1 hg w1 hbox hb; have GE1 := Aside0.mk (Nat.le_of_eq hg.symm); have BK1 := Aside0.mk hbox; have HX1 := Aside0.mk hb; clear hg hbox hb) | ((with_reducible refine gate_dst (N := 3) rfl ?_); refine box_event ?hg (N := 3) ?hd (cs := #[.string (bs nm)]) (t := 9) ?hr ?_; (case hd => rfl); (case hg => rfl); (case hr => first | (go_simp; done) | (go_simp; rfl)); intro g2 hg w2 hbox hb; have GE2 := Aside0.mk (Nat.le_of_eq hg.symm); have BK2 := Aside0.mk hbox; have HX2 := Aside0.mk hb; clear hg hbox hb) | fail)
  have BK1z := Aside0.mk (blk_below BK1.out HX2.out)
  have BK2z := Aside0.mk (BK2.out)
  have HBz := Aside0.mk (show Below w.heap.size w w2 from below_then (HX1.out) (HX1.out).size HX2.out)
  ((have hg1_0 : w2.cell? ⟨g1, 0, none⟩ = some (.pointer (some ⟨p, 0, none⟩)) := (blk_cell BK1z.out 0).trans rfl; have hfg1_0 := blk_frozen BK1z.out 0))
  ((have hg2_0 : w2.cell? ⟨g2, 0, none⟩ = some (.string (bs nm)) := (blk_cell BK2z.out 0).trans rfl; have hfg2_0 := blk_frozen BK2z.out 0))
  clear HX1 HX2 GE1 GE2 BK1 BK2
  go_wp2_with (first | ((with_reducible refine gate_dst (N := 8) rfl ?_); refine row_event2 ?hg (N := 8) ?hd (cs := #[.string (bs nm)]) (t := 9) (n := 1) (c := 1) ?hr ?_; (case hd => rfl); (case hg => rfl); (case hr => first | (go_simp; done) | (go_simp; rfl)); intro g3 hg w3 hbox hb; have GE3 := Aside0.mk (Nat.le_of_eq hg.symm); have BK3 := Aside0.mk hbox; have HX3 := Aside0.mk hb; clear hg hbox hb) | fail)
  have HB3 := Aside0.mk (below_then HBz.out HBz.out.size HX3.out)
  refine (HR.out w3 _ _ HB3.out (text_row1 BK3.out)).mono ?_
  rintro e w5 ⟨rfl, hb⟩
  have HB5 := Aside0.mk (below_then HB3.out HB3.out.size hb)
  have BK1y := Aside0.mk (blk_below (blk_below BK1z.out HX3.out) hb)
  have BK2y := Aside0.mk (blk_below (blk_below BK2z.out HX3.out) hb)
  clear hb hg1_0 hfg1_0 hg2_0 hfg2_0
  go_wp2_with fail
  go_ret
  exact ⟨rfl, HB5.out⟩
set_option maxRecDepth 100000 in
set_option maxHeartbeats 1600000 in
theorem remove_yes (w : World) (ok : Nat → Prop) (p : Nat) (s : DS) (nm : T) (h : DkAt w ok p s) (hs : Shorts [nm]) (ho : ops62 s) (hr : refuse s true [nm] = 0) :
    Calls Try.prog 16 #[.pointer (some ⟨p, 0, none⟩), .string (bs nm)] w fun e w' => e = .returned (.int .i64 (doneS s fun s => { s with fs := delF s.fs nm }).2) ∧ DkAt w' ok p (doneS s fun s => { s with fs := delF s.fs nm }).1 ∧ Only ok w w' := by
  obtain ⟨v, hl⟩ := refuse_there hr
  have HR := Aside0.mk (fun w' A c (hb : Below w.heap.size w w') (hC : text.C w' A 1 [nm]) => refused_calls w' ok p 1 c s true A [nm] (h.below hb) hC hs (by simp))
  rw [hr] at HR
  obtain ⟨mb, cl, ms, h⟩ := h
  obtain ⟨i, m, hi, rfl, rfl⟩ := h.find_of hl
  have HH := Aside0.mk h
  have HI := Aside0.mk hi
  have HOp := Aside0.mk ho
  generalize hS : (doneS s fun s => { s with fs := delF s.fs m.name }) = S
  have HS := Aside0.mk hS
  clear h hs hr hl hi ho hS
  generalize hnm : m.name = nm at *
  have HNm := Aside0.mk hnm
  clear hnm
  go_enter Try.func16, Try.ntmps16
  go_upto_region 1 with (first | ((with_reducible refine gate_dst (N := 2) rfl ?_); refine box_event ?hg (N := 2) ?hd (cs := #[.pointer (some ⟨p, 0, none⟩)]) (t := 24) ?hr ?_; (case hd => rfl); (case hg => rfl); (case hr => first | (go_simp; done) | (go_simp; rfl)); intro g1 hg w1 hbox hb; have GE1 := Aside0.mk (Nat.le_of_eq hg.symm); have BK1 := Aside0.mk hbox; have HX1 := Aside0.mk hb; clear hg hbox hb) | ((with_reducible refine gate_dst (N := 3) rfl ?_); refine box_event ?hg (N := 3) ?hd (cs := #[.string (bs nm)]) (t := 9) ?hr ?_; (case hd => rfl); (case hg => rfl); (case hr => first | (go_simp; done) | (go_simp; rfl)); intro g2 hg w2 hbox hb; have GE2 := Aside0.mk (Nat.le_of_eq hg.symm); have BK2 := Aside0.mk hbox; have HX2 := Aside0.mk hb; clear hg hbox hb) | fail)
  have BK1z := Aside0.mk (blk_below BK1.out HX2.out)
  have BK2z := Aside0.mk (BK2.out)
  have HBz := Aside0.mk (show Below w.heap.size w w2 from below_then (HX1.out) (HX1.out).size HX2.out)
  ((have hg1_0 : w2.cell? ⟨g1, 0, none⟩ = some (.pointer (some ⟨p, 0, none⟩)) := (blk_cell BK1z.out 0).trans rfl; have hfg1_0 := blk_frozen BK1z.out 0))
  ((have hg2_0 : w2.cell? ⟨g2, 0, none⟩ = some (.string (bs nm)) := (blk_cell BK2z.out 0).trans rfl; have hfg2_0 := blk_frozen BK2z.out 0))
  clear HX1 HX2 GE1 GE2 BK1 BK2
  go_wp2_with (first | ((with_reducible refine gate_dst (N := 8) rfl ?_); refine row_event2 ?hg (N := 8) ?hd (cs := #[.string (bs nm)]) (t := 9) (n := 1) (c := 1) ?hr ?_; (case hd => rfl); (case hg => rfl); (case hr => first | (go_simp; done) | (go_simp; rfl)); intro g3 hg w3 hbox hb; have GE3 := Aside0.mk (Nat.le_of_eq hg.symm); have BK3 := Aside0.mk hbox; have HX3 := Aside0.mk hb; clear hg hbox hb) | fail)
  have HB3 := Aside0.mk (below_then HBz.out HBz.out.size HX3.out)
  refine (HR.out w3 _ _ HB3.out (text_row1 BK3.out)).mono ?_
  rintro e w5 ⟨rfl, hb⟩
  have HB5 := Aside0.mk (below_then HB3.out HB3.out.size hb)
  have BK1y := Aside0.mk (blk_below (blk_below BK1z.out HX3.out) hb)
  have BK2y := Aside0.mk (blk_below (blk_below BK2z.out HX3.out) hb)
  clear hb hg1_0 hfg1_0 hg2_0 hfg2_0
  ((have hg1_0 : w5.cell? ⟨g1, 0, none⟩ = some (.pointer (some ⟨p, 0, none⟩)) := (blk_cell BK1y.out 0).trans rfl; have hfg1_0 := blk_frozen BK1y.out 0))
  ((have hg2_0 : w5.cell? ⟨g2, 0, none⟩ = some (.string (bs nm)) := (blk_cell BK2y.out 0).trans rfl; have hfg2_0 := blk_frozen BK2y.out 0))
  have H5 := Aside0.mk (HH.out.below HB5.out)
  have HD := Aside0.mk (done_calls w5 ok p s 35 #[.pointer (some ⟨g1, 0, none⟩), .pointer (some ⟨g2, 0, none⟩)] (fun s => { s with fs := delF s.fs nm }) ⟨mb, cl, ms, H5.out⟩ HOp.out fun_remove (fun w6 h1 h2 => by
    have h6 := h1 _ _ _ H5.out
    have q1 := block_only BK1y.out H5.out.blk (fun e => by injection e with _ e; exact absurd e (by decide)) h2
    have q2 := block_only BK2y.out H5.out.blk (fun e => by injection e with _ e; exact absurd e (by decide)) h2
    rw [← HNm.out] at q2
    refine (remove1_calls w6 ok p mb cl g1 g2 i _ ms m h6 HI.out q1 q2).mono fun e w7 hh => ⟨hh.1, ?_, hh.2.2⟩
    have e6 := removeF_is h6 HI.out
    rw [HNm.out] at e6
    have e7 : delF s.fs nm = s.fs.eraseIdx i := e6
    show DkAt w7 ok p { s with ops := s.ops + 1, fs := delF s.fs nm }
    rw [e7]
    exact hh.2.1))
  go_wp2_with fail
  refine HD.out.mono ?_
  rintro e w6 ⟨rfl, h6, ho6⟩
  rw [HS.out] at h6 ⊢
  have H6 := Aside0.mk h6
  have HO6 := Aside0.mk ((Only.of_below (ok := ok) HB5.out).trans ho6 (fun _ hk => .inl hk))
  clear h6 ho6 hg1_0 hfg1_0 hg2_0 hfg2_0
  go_wp2_with fail
  go_ret
  exact ⟨rfl, H6.out, HO6.out⟩
theorem remove_calls (w : World) (ok : Nat → Prop) (p : Nat) (s : DS) (nm : T) (h : DkAt w ok p s) (hs : Shorts [nm]) (ho : ops62 s) :
    Calls Try.prog 16 #[.pointer (some ⟨p, 0, none⟩), .string (bs nm)] w fun e w' => e = .returned (.int .i64 (removeS s nm).2) ∧ DkAt w' ok p (removeS s nm).1 ∧ Only ok w w' := by
  unfold removeS
  by_cases hr : refuse s true [nm] = 0
  · rw [if_neg (fun hh => hh hr)]
    exact remove_yes w ok p s nm h hs ho hr
  · rw [if_pos hr]
    exact (remove_no w ok p s nm h hs hr).mono fun e w' hh => ⟨hh.1, h.below hh.2, Only.of_below hh.2⟩
end Go.Proofs.Ytabomfmjepmkjaa.Dk
end

section
namespace Go.Proofs
open Go.Shelf
def Try.lays190_ren : Go.Shelf.Ren := ⟨fun | 190 => 58 | 125 => 70 | 258 => 69 | 128 => 80 | 129 => 81 | 302 => 71 | 303 => 72 | 304 => 73 | 305 => 74 | 306 => 75 | 307 => 76 | 308 => 77 | 309 => 78 | 310 => 79 | 333 => 82 | 329 => 83 | 330 => 84 | 334 => 85 | 335 => 86 | 336 => 87 | 344 => 88 | n => n, fun | 31 => 36 | 9 => 9 | 3 => 3 | 46 => 88 | 0 => 0 | 51 => 98 | 53 => 100 | 4 => 4 | 183 => 91 | 182 => 90 | 131 => 95 | 5 => 5 | 218 => 101 | 222 => 105 | 228 => 107 | 229 => 108 | n => n, fun | n => n⟩
theorem Try.lays190 : Go.Proofs.Lays.n190 Try.prog Try.lays190_ren := {
  mixed := by kernel_rfl
  f125 := Try.func70.trans (congrArg some (by kernel_rfl))
  f128 := Try.func80.trans (congrArg some (by kernel_rfl))
  f129 := Try.func81.trans (congrArg some (by kernel_rfl))
  f190 := Try.func58.trans (congrArg some (by kernel_rfl))
  f258 := Try.func69.trans (congrArg some (by kernel_rfl))
  f302 := Try.func71.trans (congrArg some (by kernel_rfl))
  f303 := Try.func72.trans (congrArg some (by kernel_rfl))
  f304 := Try.func73.trans (congrArg some (by kernel_rfl))
  f305 := Try.func74.trans (congrArg some (by kernel_rfl))
  f306 := Try.func75.trans (congrArg some (by kernel_rfl))
  f307 := Try.func76.trans (congrArg some (by kernel_rfl))
  f308 := Try.func77.trans (congrArg some (by kernel_rfl))
  f309 := Try.func78.trans (congrArg some (by kernel_rfl))
  f310 := Try.func79.trans (congrArg some (by kernel_rfl))
  f329 := Try.func83.trans (congrArg some (by kernel_rfl))
  f330 := Try.func84.trans (congrArg some (by kernel_rfl))
  f333 := Try.func82.trans (congrArg some (by kernel_rfl))
  f334 := Try.func85.trans (congrArg some (by kernel_rfl))
  f335 := Try.func86.trans (congrArg some (by kernel_rfl))
  f336 := Try.func87.trans (congrArg some (by kernel_rfl))
  f344 := Try.func88.trans (congrArg some (by kernel_rfl))
  t0 := Try.underlying0
  a0 := Try.isAgg0
  z0 := Try.sizeOf0
  v0 := Try.zeroValue0
  t3 := Try.underlying3
  a3 := Try.isAgg3
  z3 := Try.sizeOf3
  v3 := Try.zeroValue3
  t4 := Try.underlying4
  a4 := Try.isAgg4
  z4 := Try.sizeOf4
  v4 := Try.zeroValue4
  t5 := Try.underlying5
  a5 := Try.isAgg5
  z5 := Try.sizeOf5
  v5 := Try.zeroValue5
  t9 := Try.underlying9
  a9 := Try.isAgg9
  z9 := Try.sizeOf9
  v9 := Try.zeroValue9
  t31 := Try.underlying36
  a31 := Try.isAgg36
  z31 := Try.sizeOf36
  v31 := Try.zeroValue36
  t46 := Try.underlying88
  a46 := Try.isAgg88
  z46 := Try.sizeOf88
  v46 := Try.zeroValue88
  t51 := Try.underlying98
  a51 := Try.isAgg98
  z51 := Try.sizeOf98
  v51 := Try.zeroValue98
  t53 := Try.underlying100
  a53 := Try.isAgg100
  z53 := Try.sizeOf100
  v53 := Try.zeroValue100
  t131 := Try.underlying95
  a131 := Try.isAgg95
  z131 := Try.sizeOf95
  v131 := Try.zeroValue95
  t182 := Try.underlying90
  a182 := Try.isAgg90
  z182 := Try.sizeOf90
  v182 := Try.zeroValue90
  t183 := Try.underlying91
  a183 := Try.isAgg91
  z183 := Try.sizeOf91
  v183 := Try.zeroValue91
  t218 := Try.underlying101
  a218 := Try.isAgg101
  z218 := Try.sizeOf101
  v218 := Try.zeroValue101
  t222 := Try.underlying105
  a222 := Try.isAgg105
  z222 := Try.sizeOf105
  v222 := Try.zeroValue105
  t228 := Try.underlying107
  a228 := Try.isAgg107
  z228 := Try.sizeOf107
  v228 := Try.zeroValue107
  t229 := Try.underlying108
  a229 := Try.isAgg108
  z229 := Try.sizeOf108
  v229 := Try.zeroValue108 }
open Go.Sort Go.RowKit in
theorem Try.slices_Sort_string (blk off cap : Nat) (ss : List (List UInt8)) (w : World) (hH : Holds encStr w blk off ss.toArray) (hblk : blk < w.heap.size) (hsz : ss.length < 4611686018427387904) :
    Calls Try.prog 58 #[.slice (some ⟨blk, off, none⟩) ss.length cap] w fun e w' =>
      e = .returned (.tuple #[]) ∧ ∃ n os, w' = grow (putRow encStr (Sort.ahead w n) blk off (ss.mergeSort fun x y => decide (x ≤ y)).toArray) os := Any.slices_Sort_string Try.lays190 blk off cap ss w hH hblk hsz
def Try.lays206_ren : Go.Shelf.Ren := ⟨fun | 206 => 61 | n => n, fun | 9 => 9 | 4 => 4 | 3 => 3 | n => n, fun | n => n⟩
theorem Try.lays206 : Go.Proofs.Lays.n206 Try.prog Try.lays206_ren := {
  mixed := by kernel_rfl
  f206 := Try.func61.trans (congrArg some (by kernel_rfl))
  t3 := Try.underlying3
  a3 := Try.isAgg3
  z3 := Try.sizeOf3
  v3 := Try.zeroValue3
  t4 := Try.underlying4
  a4 := Try.isAgg4
  z4 := Try.sizeOf4
  v4 := Try.zeroValue4
  t9 := Try.underlying9
  a9 := Try.isAgg9
  z9 := Try.sizeOf9
  v9 := Try.zeroValue9 }
open Go.RowKit Go.Lib in
theorem Try.stringslite_HasPrefix (s p : ByteArray) (w : World) :
    Calls Try.prog 61 #[.string s, .string p] w fun e w' => e = .returned (.bool (Lib.hasPrefix s.data.toList p.data.toList)) ∧ w' = w := Any.stringslite_HasPrefix Try.lays206 s p w
def Try.lays99_ren : Go.Shelf.Ren := ⟨fun | 99 => 43 | 206 => 61 | n => n, fun | 9 => 9 | 4 => 4 | 3 => 3 | n => n, fun | n => n⟩
theorem Try.lays99 : Go.Proofs.Lays.n99 Try.prog Try.lays99_ren := {
  mixed := by kernel_rfl
  f99 := Try.func43.trans (congrArg some (by kernel_rfl))
  f206 := Try.func61.trans (congrArg some (by kernel_rfl))
  t3 := Try.underlying3
  a3 := Try.isAgg3
  z3 := Try.sizeOf3
  v3 := Try.zeroValue3
  t4 := Try.underlying4
  a4 := Try.isAgg4
  z4 := Try.sizeOf4
  v4 := Try.zeroValue4
  t9 := Try.underlying9
  a9 := Try.isAgg9
  z9 := Try.sizeOf9
  v9 := Try.zeroValue9 }
open Go.RowKit Go.Lib in
theorem Try.strings_HasPrefix (s p : ByteArray) (w : World) :
    Calls Try.prog 43 #[.string s, .string p] w fun e w' => e = .returned (.bool (Lib.hasPrefix s.data.toList p.data.toList)) ∧ w' = w := Any.strings_HasPrefix Try.lays99 s p w
open Go.RowKit Go.Sort in
theorem Try.slices_Sort_string_none (p : Option Addr) (cap : Nat) (w : World) :
    Calls Try.prog 58 #[.slice p 0 cap] w fun e w' => e = .returned (.tuple #[]) ∧ w' = w := Any.slices_Sort_string_none Try.lays190 p cap w
end Go.Proofs
end

section
namespace Go.Proofs.Ytabomfmjepmkjaa.Dk
set_option linter.unusedVariables false
set_option linter.unusedSimpArgs false
open Go.RowKit Go.Proofs.YtabomfmjepmkjaaW.PrintWords Go.Proofs.YtabomfmjepmkjaaW.PrintLast Go.Proofs.YtabomfmjepmkjaaW.PrintMore Go.Proofs.Ytabomfmjepmkjaa.Lib Go.Proofs.Ytabomfmjepmkjaa.Mem Go.Proofs.Ytabomfmjepmkjaa.Txt
open Go.MapKept Go.ChangeMaps
theorem bytes_block {w : World} {g : Nat} {xs : List Int} {fr : Nat × Nat} (h : w.heap[g]? = some (.cells (xs.map (Value.int .u8)).toArray 5 fr)) (hl : xs.length ≤ 9223372036854775807) : Kd.C (Kd.int .u8) w (some ⟨g, 0, none⟩) xs.length xs := by
  refine ⟨rfl, hl, fun _ => ⟨_, rfl, fun j x hx => ⟨[.int .u8 x], rfl, rfl, fun i u hu => ?_⟩⟩⟩
  have e1 : (Kd.int .u8).sz = 1 := rfl
  rcases i with _ | i
  · obtain rfl := Option.some.inj hu
    rw [e1, show j * 1 + 0 = j by omega, add_at, Nat.zero_add]
    unfold World.cell?
    simp only [h]
    simp [hx]
  · simp at hu
def tA : T := [97]
def s1 : DS := ⟨false, 1, -1, 0, [(tA, [120, 121], 0)]⟩
def s2 : DS := ⟨false, 2, -1, 0, [(tA, [120, 121], 2)]⟩
def s3 : DS := ⟨false, 3, -1, 0, [(tA, [120, 121, 122], 2)]⟩
def s4 : DS := ⟨true, 3, -1, 0, [(tA, [120, 121], 2)]⟩
def s5 : DS := ⟨false, 3, -1, 0, [(tA, [120, 121], 2)]⟩
theorem step1 : appendS emptyS tA [120, 121] = (s1, 0) := by rfl
theorem step2 : syncS s1 tA = (s2, 0) := by rfl
theorem step3 : appendS s2 tA [122] = (s3, 0) := by rfl
theorem step4 : s3.cut 0 = s4 := by rfl
theorem read3 : refuse s3 true [tA] = 0 ∧ ((look s3.fs tA).getD ([], 0)).1 = [120, 121, 122] := ⟨rfl, rfl⟩
theorem read4 : refuse s4 true [tA] = 122 := rfl
theorem read5 : refuse s5 true [tA] = 0 ∧ ((look s5.fs tA).getD ([], 0)).1 = [120, 121] := ⟨rfl, rfl⟩
theorem shortA : Shorts [tA] := fun t ht => by rw [List.mem_singleton.1 ht]; decide
set_option maxRecDepth 100000 in
set_option maxHeartbeats 1600000 in
theorem awake_calls (w : World) : Calls Try.prog 10 #[] w fun e w' => e = .returned (.bool true) ∧ Below w.heap.size w w' := by
  have kc := fun (w : World) (C : Array Value) (n c : Nat) => Lib.run_convert_bytes_const (P := Try.prog) w 22 5 C n c Try.underlying22 Try.underlying5
  go_enter Try.func10, Try.ntmps10
  go_wp2_with fail
  refine (new_calls w).mono ?_
  rintro e w1 ⟨p, rfl, hd, hb, hp⟩
  have HD1 := Aside0.mk (hd.mono (ok' := fun k => w.heap.size ≤ k) (fun k hk => hk.elim False.elim (fun h => h.1)))
  have HB1 := Aside0.mk hb
  clear hd hb hp
  go_wp2_with fail
  have HX2 := Aside0.mk (Below.alloc (Below.refl w1.heap.size w1) (Nat.le_refl _) (.cells #[.int .u8 120, .int .u8 121] 5 (2, 3)))
  have BK2 := Aside0.mk (heap_alloc w1 (.cells #[.int .u8 120, .int .u8 121] 5 (2, 3))).1
  have HB2 := Aside0.mk (below_then HB1.out HB1.out.size HX2.out)
  generalize w1.alloc (.cells #[.int .u8 120, .int .u8 121] 5 (2, 3)) = w2 at *
  refine (append_calls w2 _ p 2 2 emptyS tA (some ⟨w1.heap.size, 0, none⟩) [120, 121] (HD1.out.below HX2.out) shortA ⟨by decide, by decide⟩ (bytes_block (xs := [120, 121]) BK2.out (by decide)) (by decide)).mono ?_
  rintro e w3 ⟨rfl, hd, ho⟩
  rw [step1] at hd ⊢
  have HD3 := Aside0.mk (hd.mono (ok' := fun k => w.heap.size ≤ k) (fun k hk => hk.elim id (fun h => Nat.le_trans HB2.out.size h.1)))
  have HB3 := Aside0.mk (HB2.out.trans (ho.below HB2.out.size (fun _ h => h)))
  clear hd ho
  simp only
  go_wp2_with fail
  refine (sync_calls w3 _ p s1 tA HD3.out shortA ⟨by decide, by decide⟩).mono ?_
  rintro e w4 ⟨rfl, hd, ho⟩
  rw [step2] at hd ⊢
  have HD4 := Aside0.mk hd
  have HB4 := Aside0.mk (HB3.out.trans (ho.below HB3.out.size (fun _ h => h)))
  clear hd ho
  simp only
  go_wp2_with fail
  have HX5 := Aside0.mk (Below.alloc (Below.refl w4.heap.size w4) (Nat.le_refl _) (.cells #[.int .u8 122] 5 (1, 2)))
  have BK5 := Aside0.mk (heap_alloc w4 (.cells #[.int .u8 122] 5 (1, 2))).1
  have HB5 := Aside0.mk (below_then HB4.out HB4.out.size HX5.out)
  generalize w4.alloc (.cells #[.int .u8 122] 5 (1, 2)) = w5 at *
  refine (append_calls w5 _ p 1 1 s2 tA (some ⟨w4.heap.size, 0, none⟩) [122] (HD4.out.below HX5.out) shortA ⟨by decide, by decide⟩ (bytes_block (xs := [122]) BK5.out (by decide)) (by decide)).mono ?_
  rintro e w6 ⟨rfl, hd, ho⟩
  rw [step3] at hd ⊢
  have HD6 := Aside0.mk ((hd.bound).mono (ok' := fun k => w.heap.size ≤ k ∧ k < w6.heap.size) (fun k hk => ⟨hk.1.elim id (fun h => Nat.le_trans HB5.out.size h.1), hk.2⟩))
  have HB6 := Aside0.mk (HB5.out.trans (ho.below HB5.out.size (fun _ h => h)))
  clear hd ho
  simp only
  go_wp2_with fail
  refine (read_yes w6 _ p s3 tA HD6.out shortA read3.1 (by rw [read3.2]; decide)).mono ?_
  rintro e w7 ⟨v7, rfl, hr, hb⟩
  rw [read3.2] at hr
  obtain ⟨A7, c7, rfl, hc7, hC7⟩ := Kd.R_reads hr
  have HR7 := Aside0.mk hr
  have HD7 := Aside0.mk (HD6.out.below hb)
  have HB7 := Aside0.mk (below_then HB6.out HB6.out.size hb)
  clear hr hb hC7 hc7
  go_wp2_with fail
  refine (Cut_calls w7 _ p s3 0 HD7.out rfl).mono ?_
  rintro e w8 ⟨rfl, hd, ho⟩
  rw [step4] at hd
  have HD8 := Aside0.mk hd
  have HB8 := Aside0.mk (HB7.out.trans (ho.below HB7.out.size (fun _ h => h.1)))
  have HR8 := Aside0.mk (R_only HR7.out ho (fun k _ h1 _ h2 => by omega))
  clear hd ho
  go_wp2_with fail
  have hr4 := read_no w8 _ p s4 tA HD8.out shortA (by rw [read4]; decide)
  rw [read4] at hr4
  refine hr4.mono ?_
  rintro e w9 ⟨rfl, hb⟩
  have HD9 := Aside0.mk (HD8.out.below hb)
  have HB9 := Aside0.mk (below_then HB8.out HB8.out.size hb)
  have HR9 := Aside0.mk (Kd.R_below HR8.out hb)
  clear hb hr4
  go_wp2_with fail
  refine (on_calls w9 _ p s4 HD9.out).mono ?_
  rintro e w10 ⟨rfl, hd, ho⟩
  have HD10 := Aside0.mk (show DkAt w10 (fun k => w.heap.size ≤ k ∧ k < w6.heap.size) p s5 from hd)
  have hok : w.heap.size ≤ p ∧ p < w6.heap.size := by obtain ⟨mb, cl, ms, h⟩ := HD9.out; exact h.okp
  have HB10 := Aside0.mk (HB9.out.trans (ho.below HB9.out.size (fun k h => by rw [show k = p from h]; exact hok.1)))
  have HR10 := Aside0.mk (R_only HR9.out ho (fun k _ h1 _ h2 => by have e : k = p := h2; omega))
  clear hd ho hok
  go_wp2_with fail
  refine (read_yes w10 _ p s5 tA HD10.out shortA read5.1 (by rw [read5.2]; decide)).mono ?_
  rintro e w11 ⟨v11, rfl, hr, hb⟩
  rw [read5.2] at hr
  obtain ⟨A11, c11, rfl, hc11, hC11⟩ := Kd.R_reads hr
  have HD11 := Aside0.mk (HD10.out.below hb)
  have HB11 := Aside0.mk (below_then HB10.out HB10.out.size hb)
  have hR7 := Kd.R_below HR10.out hb
  have hs7 := Kd.C_string Try.underlying22 Try.underlying5 Try.underlying9 (c := c7) (show Kd.C (Kd.int .u8) w11 A7 3 [120, 121, 122] from (Kd.R_reads' hR7).2.2)
  have hs11 := Kd.C_string Try.underlying22 Try.underlying5 Try.underlying9 (c := c11) (show Kd.C (Kd.int .u8) w11 A11 2 [120, 121] from hC11)
  have e7 : strOfNums [120, 121, 122] = ⟨#[120, 121, 122]⟩ := by decide +kernel
  have e11 : strOfNums [120, 121] = ⟨#[120, 121]⟩ := by decide +kernel
  rw [e7] at hs7
  rw [e11] at hs11
  clear hr hb hC11 hc11 hR7 e7 e11
  go_wp2_with fail
  refine (ops_calls w11 _ p s5 HD11.out).mono ?_
  rintro e w12 ⟨rfl, hb⟩
  have HB12 := Aside0.mk (below_then HB11.out HB11.out.size hb)
  clear hb
  have e5 : s5.ops = 3 := rfl
  rw [e5]
  go_wp2_with fail
  go_ret
  exact ⟨rfl, HB12.out⟩
end Go.Proofs.Ytabomfmjepmkjaa.Dk
end

section
namespace Go.Proofs.Ytabomfmjepmkjaa.Dk
set_option linter.unusedVariables false
set_option linter.unusedSimpArgs false
open Go.RowKit Go.Proofs.YtabomfmjepmkjaaW.PrintWords Go.Proofs.Ytabomfmjepmkjaa.Lib Go.Proofs.Ytabomfmjepmkjaa.Txt
def Nd (fs : Fs) : Prop := fs.Pairwise fun a b => a.1 ≠ b.1
theorem look_not {fs : Fs} {nm : T} (h : ∀ x ∈ fs, x.1 ≠ nm) : look fs nm = none := by
  unfold look
  rw [List.find?_eq_none.2 (fun x hx => by
    have : hasName nm x = false := decide_eq_false (h x hx)
    rw [this]; simp)]
  rfl
theorem look_cons (x : T × Fv) (fs : Fs) (nm : T) : look (x :: fs) nm = if x.1 = nm then some x.2 else look fs nm := by
  unfold look
  rw [List.find?_cons]
  by_cases h : x.1 = nm
  · rw [if_pos h, show hasName nm x = true from decide_eq_true h]
    rfl
  · rw [if_neg h, show hasName nm x = false from decide_eq_false h]
theorem look_nil (nm : T) : look [] nm = none := rfl
theorem look_mem {fs : Fs} (hn : Nd fs) {x : T × Fv} (hx : x ∈ fs) : look fs x.1 = some x.2 := by
  induction fs with
  | nil => simp at hx
  | cons y fs ih =>
    have h := List.pairwise_cons.1 hn
    rw [look_cons]
    rcases List.mem_cons.1 hx with rfl | hx
    · rw [if_pos rfl]
    · rw [if_neg (h.1 x hx)]
      exact ih h.2 hx
theorem idx_cons (x : T × Fv) (fs : Fs) (nm : T) : (x :: fs).findIdx? (hasName nm) = if x.1 = nm then some 0 else (fs.findIdx? (hasName nm)).map (· + 1) := by
  rw [List.findIdx?_cons]
  by_cases h : x.1 = nm
  · rw [if_pos h, show hasName nm x = true from decide_eq_true h, if_pos rfl]
  · rw [if_neg h, show hasName nm x = false from decide_eq_false h]
    rfl
theorem putF_nil (nm : T) (v : Fv) : putF [] nm v = [(nm, v)] := rfl
theorem putF_cons (x : T × Fv) (fs : Fs) (nm : T) (v : Fv) : putF (x :: fs) nm v = if x.1 = nm then (nm, v) :: fs else x :: putF fs nm v := by
  unfold putF
  rw [idx_cons]
  by_cases h : x.1 = nm
  · rw [if_pos h, if_pos h]; rfl
  · rw [if_neg h, if_neg h]
    cases fs.findIdx? (hasName nm) with
    | none => rfl
    | some i => rfl
theorem delF_nil (nm : T) : delF [] nm = [] := rfl
theorem delF_cons (x : T × Fv) (fs : Fs) (nm : T) : delF (x :: fs) nm = if x.1 = nm then fs else x :: delF fs nm := by
  unfold delF
  rw [idx_cons]
  by_cases h : x.1 = nm
  · rw [if_pos h, if_pos h]; rfl
  · rw [if_neg h, if_neg h]
    cases fs.findIdx? (hasName nm) with
    | none => rfl
    | some i => rfl
theorem look_put (fs : Fs) (a : T) (v : Fv) (b : T) : look (putF fs a v) b = if b = a then some v else look fs b := by
  induction fs with
  | nil =>
    rw [putF_nil, look_cons, look_nil]
    by_cases h : b = a
    · rw [if_pos h, if_pos h.symm]
    · rw [if_neg h, if_neg (Ne.symm h)]
  | cons x fs ih =>
    rw [putF_cons]
    by_cases hx : x.1 = a
    · rw [if_pos hx, look_cons, look_cons]
      by_cases h : b = a
      · rw [if_pos h, if_pos h.symm]
      · rw [if_neg h, if_neg (fun e => h e.symm), if_neg (fun e => h (e.symm.trans hx))]
    · rw [if_neg hx, look_cons, look_cons, ih]
      by_cases h : b = a
      · rw [if_pos h, if_pos h, if_neg (fun e => hx (e.trans h))]
      · rw [if_neg h, if_neg h]
theorem mem_put {fs : Fs} {a : T} {v : Fv} {x : T × Fv} (h : x ∈ putF fs a v) : x = (a, v) ∨ x ∈ fs := by
  induction fs with
  | nil => rw [putF_nil] at h; exact .inl (List.mem_singleton.1 h)
  | cons y fs ih =>
    rw [putF_cons] at h
    split at h
    · rcases List.mem_cons.1 h with h | h
      · exact .inl h
      · exact .inr (List.mem_cons_of_mem _ h)
    · rcases List.mem_cons.1 h with h | h
      · exact .inr (by rw [h]; exact List.mem_cons_self)
      · exact (ih h).imp id (List.mem_cons_of_mem _)
theorem nd_put {fs : Fs} (hn : Nd fs) (a : T) (v : Fv) : Nd (putF fs a v) := by
  induction fs with
  | nil => rw [putF_nil]; exact List.pairwise_singleton _ _
  | cons x fs ih =>
    have h := List.pairwise_cons.1 hn
    rw [putF_cons]
    by_cases hx : x.1 = a
    · rw [if_pos hx]
      exact List.pairwise_cons.2 ⟨fun y hy => by have := h.1 y hy; rw [hx] at this; exact this, h.2⟩
    · rw [if_neg hx]
      refine List.pairwise_cons.2 ⟨fun y hy => ?_, ih h.2⟩
      rcases mem_put hy with e | hy
      · rw [e]; exact hx
      · exact h.1 y hy
theorem look_del {fs : Fs} (hn : Nd fs) (a b : T) : look (delF fs a) b = if b = a then none else look fs b := by
  induction fs with
  | nil => rw [delF_nil, look_nil]; split <;> rfl
  | cons x fs ih =>
    have h := List.pairwise_cons.1 hn
    rw [delF_cons]
    by_cases hx : x.1 = a
    · rw [if_pos hx, look_cons]
      by_cases e : b = a
      · rw [if_pos e, look_not (fun y hy => by have := h.1 y hy; rw [hx, ← e] at this; exact this.symm)]
      · rw [if_neg e, if_neg (fun h2 => e (h2.symm.trans hx))]
    · rw [if_neg hx, look_cons, look_cons, ih h.2]
      by_cases e : b = a
      · rw [if_pos e, if_pos e, if_neg (fun h2 => hx (h2.trans e))]
      · rw [if_neg e, if_neg e]
theorem len_put (fs : Fs) (a : T) (v : Fv) : (putF fs a v).length = if (look fs a).isSome = true then fs.length else fs.length + 1 := by
  induction fs with
  | nil => rfl
  | cons x fs ih =>
    rw [putF_cons, look_cons]
    by_cases hx : x.1 = a
    · rw [if_pos hx, if_pos hx]; rfl
    · rw [if_neg hx, if_neg hx, List.length_cons, List.length_cons, ih]
      split <;> rfl
theorem len_del (fs : Fs) (a : T) : fs.length = if (look fs a).isSome = true then (delF fs a).length + 1 else (delF fs a).length := by
  induction fs with
  | nil => rfl
  | cons x fs ih =>
    rw [delF_cons, look_cons]
    by_cases hx : x.1 = a
    · rw [if_pos hx, if_pos hx]; rfl
    · rw [if_neg hx, if_neg hx, List.length_cons, List.length_cons]
      split
      · rename_i h; rw [if_pos h] at ih; omega
      · rename_i h; rw [if_neg h] at ih; omega
end Go.Proofs.Ytabomfmjepmkjaa.Dk
end

section
namespace Go.Proofs.Ytabomfmjepmkjaa.Dk
set_option linter.unusedVariables false
set_option linter.unusedSectionVars false
set_option linter.unusedSimpArgs false
open Go.RowKit Go.Proofs.YtabomfmjepmkjaaW.PrintWords Go.Proofs.Ytabomfmjepmkjaa.Lib Go.Proofs.Ytabomfmjepmkjaa.Txt
def numT (i : Nat) : T := if i < 10 then [UInt8.ofNat (48 + i)] else if i < 100 then [UInt8.ofNat (48 + i / 10), UInt8.ofNat (48 + i % 10)] else [UInt8.ofNat (48 + i / 100), UInt8.ofNat (48 + i / 10 % 10), UInt8.ofNat (48 + i % 10)]
def fname (i : Nat) : T := 102 :: numT i
def decT (t : T) : Nat := (t.drop 1).foldl (fun a d => a * 10 + (d.toNat - 48)) 0
def numOk (i : Nat) : Bool := (decT (fname i) == i) && (named (fname i) && decide (P.gristmilllaw12_number.f 4 (i : Int) = some (bs (numT i))))
theorem nums_ok : (List.range 1000).all numOk = true := by decide +kernel
theorem num_ok {i : Nat} (h : i < 1000) : decT (fname i) = i ∧ named (fname i) = true ∧ P.gristmilllaw12_number.f 4 (i : Int) = some (bs (numT i)) := by
  have := List.all_eq_true.1 nums_ok i (List.mem_range.2 h)
  unfold numOk at this
  simp only [Bool.and_eq_true] at this
  exact ⟨beq_iff_eq.1 this.1, this.2.1, of_decide_eq_true this.2.2⟩
theorem fname_inj {i j : Nat} (hi : i < 1000) (hj : j < 1000) (h : fname i = fname j) : i = j := by rw [← (num_ok hi).1, ← (num_ok hj).1, h]
def fsN (i : Nat) : Fs := (List.range i).map fun j => (fname j, ([], 0))
def sN (i : Nat) : DS := ⟨false, i, -1, 0, fsN i⟩
theorem fsN_len (i : Nat) : (fsN i).length = i := by unfold fsN; rw [List.length_map, List.length_range]
theorem fsN_nd {i : Nat} (hi : i ≤ 1000) : Nd (fsN i) := by
  refine List.pairwise_map.2 ?_
  refine (List.pairwise_iff_getElem.2 fun a b ha hb hab => ?_)
  rw [List.getElem_range, List.getElem_range]
  rw [List.length_range] at ha hb
  intro e
  have := fname_inj (by omega) (by omega) e
  omega
theorem fsN_yes {i j : Nat} (hi : i ≤ 1000) (hj : j < i) : look (fsN i) (fname j) = some ([], 0) := look_mem (x := (fname j, ([], 0))) (fsN_nd hi) (List.mem_map.2 ⟨j, List.mem_range.2 hj, rfl⟩)
theorem fsN_no {i j : Nat} (hi : i ≤ j) (hj : j < 1000) : look (fsN i) (fname j) = none := look_not fun x hx => by
  obtain ⟨k, hk, rfl⟩ := List.mem_map.1 hx
  rw [List.mem_range] at hk
  intro e
  have := fname_inj (by omega) hj e
  omega
theorem fsN_succ (i : Nat) : fsN (i + 1) = fsN i ++ [(fname i, ([], 0))] := by unfold fsN; rw [List.range_succ, List.map_append]; rfl
def tG : T := [103]
theorem fsN_g (i : Nat) : look (fsN i) tG = none := look_not fun x hx => by
  obtain ⟨k, hk, rfl⟩ := List.mem_map.1 hx
  intro e
  have e2 : fname k = tG := e
  unfold fname tG at e2
  injection e2 with e2 _
  exact absurd e2 (by decide)
theorem put_new {fs : Fs} {nm : T} (v : Fv) (h : look fs nm = none) : putF fs nm v = fs ++ [(nm, v)] := by
  induction fs with
  | nil => rfl
  | cons x fs ih =>
    rw [look_cons] at h
    split at h
    · cases h
    · rename_i hx
      rw [putF_cons, if_neg hx, ih h]
      rfl
theorem refuse_fine {s : DS} {nm : T} (ho : s.off = false) (hn : named nm = true) : refuse s false [nm] = 0 := by
  unfold refuse
  rw [ho, if_neg (by decide), if_neg (by simp [hn]), if_neg (by simp)]
theorem refuse_is {s : DS} {nm : T} {v : Fv} (ho : s.off = false) (hn : named nm = true) (hl : look s.fs nm = some v) : refuse s true [nm] = 0 := by
  unfold refuse
  rw [ho, if_neg (by decide), if_neg (by simp [hn]), if_neg (by rw [show [nm].headD [] = nm from rfl, hl]; simp)]
theorem step_full (i : Nat) (hi : i < 1000) : appendS (sN i) (fname i) [] = (sN (i + 1), 0) := by
  unfold appendS
  rw [if_neg (by rw [refuse_fine rfl (num_ok hi).2.1]; decide)]
  rw [show look (sN i).fs (fname i) = none from fsN_no (Nat.le_refl _) hi]
  simp only
  rw [if_neg (by show ¬ 1000 ≤ (fsN i).length; rw [fsN_len]; omega)]
  unfold doneS
  rw [if_neg (by show ¬ (i : Int) = -1; omega)]
  show (({ sN i with fs := putF (fsN i) (fname i) ([], 0), ops := (i : Int) + 1 } : DS), (0 : Int)) = _
  rw [put_new _ (fsN_no (Nat.le_refl _) hi), ← fsN_succ]
  rfl
theorem ne_g (j : Nat) : tG ≠ fname j := fun e => by
  unfold fname tG at e
  injection e with e _
  exact absurd e (by decide)
def u0 (fs : Fs) : DS := ⟨false, 1000, -1, 0, fs⟩
def u1 (fs : Fs) (k : T) (xs : List Int) : DS := ⟨false, 1001, -1, 0, putF fs k (xs, 0)⟩
def u2 (fs : Fs) (k : T) (xs : List Int) : DS := ⟨false, 1002, -1, 0, delF (putF fs k (xs, 0)) k⟩
def u3 (fs : Fs) (k : T) (xs : List Int) : DS := ⟨false, 1003, -1, 0, putF (delF (putF fs k (xs, 0)) k) tG ([], 0)⟩
section
variable {fs : Fs} {k : T} (hnd : Nd fs) (hlen : fs.length = 1000) (hg : look fs tG = none) (hk : look fs k = some ([], 0)) (hnk : named k = true) (hne : tG ≠ k) (xs : List Int)
include hnd hlen hg hk hnk hne
theorem full1 : appendS (u0 fs) tG [] = (u0 fs, 1) := by
  unfold appendS
  rw [if_neg (by rw [refuse_fine rfl (by decide)]; decide)]
  rw [show look (u0 fs).fs tG = none from hg]
  simp only
  rw [if_pos (by show 1000 ≤ fs.length; omega)]
theorem full2 : appendS (u0 fs) k xs = (u1 fs k xs, 0) := by
  unfold appendS
  rw [if_neg (by rw [refuse_fine rfl hnk]; decide)]
  rw [show look (u0 fs).fs k = some ([], 0) from hk]
  simp only
  unfold doneS
  rw [if_neg (by show ¬ (1000 : Int) = -1; decide)]
  rfl
theorem look1 : look (u1 fs k xs).fs k = some (xs, 0) := by
  show look (putF fs k (xs, 0)) k = _
  rw [look_put, if_pos rfl]
theorem full3 : refuse (u1 fs k xs) true [k] = 0 := refuse_is rfl hnk (look1 hnd hlen hg hk hnk hne xs)
theorem full4 : removeS (u1 fs k xs) k = (u2 fs k xs, 0) := by
  unfold removeS
  rw [if_neg (by rw [full3 hnd hlen hg hk hnk hne xs]; decide)]
  unfold doneS
  rw [if_neg (by show ¬ (1001 : Int) = -1; decide)]
  rfl
theorem look2 : look (u2 fs k xs).fs k = none := by
  show look (delF _ _) _ = _
  rw [look_del (nd_put hnd _ _), if_pos rfl]
theorem look2g : look (u2 fs k xs).fs tG = none := by
  show look (delF _ _) _ = _
  rw [look_del (nd_put hnd _ _), if_neg hne, look_put, if_neg hne, hg]
theorem len2 : (u2 fs k xs).fs.length = 999 := by
  show (delF _ _).length = 999
  have h1 := len_del (putF fs k (xs, 0)) k
  rw [look_put, if_pos rfl, len_put, hk, hlen] at h1
  simp at h1
  omega
theorem full5 : appendS (u2 fs k xs) tG [] = (u3 fs k xs, 0) := by
  unfold appendS
  rw [if_neg (by rw [refuse_fine rfl (by decide)]; decide)]
  rw [look2g hnd hlen hg hk hnk hne xs]
  simp only
  rw [if_neg (by rw [len2 hnd hlen hg hk hnk hne xs]; omega)]
  unfold doneS
  rw [if_neg (by show ¬ (1002 : Int) = -1; decide)]
  rfl
theorem full6 : appendS (u3 fs k xs) k [] = (u3 fs k xs, 1) := by
  have hl : look (u3 fs k xs).fs k = none := by
    show look (putF (u2 fs k xs).fs tG ([], 0)) k = none
    rw [look_put, if_neg (Ne.symm hne), look2 hnd hlen hg hk hnk hne xs]
  have hlen : (u3 fs k xs).fs.length = 1000 := by
    show (putF (u2 fs k xs).fs tG ([], 0)).length = 1000
    rw [len_put, look2g hnd hlen hg hk hnk hne xs, len2 hnd hlen hg hk hnk hne xs]
    rfl
  unfold appendS
  rw [if_neg (by rw [refuse_fine rfl hnk]; decide), hl]
  simp only
  rw [if_pos (by rw [hlen]; omega)]
end
theorem short_f (j : Nat) : (fname j).length ≤ 4 := by
  unfold fname numT
  split
  · simp
  · split <;> simp
end Go.Proofs.Ytabomfmjepmkjaa.Dk
end

section
namespace Go.Proofs.Ytabomfmjepmkjaa.Dk
set_option linter.unusedVariables false
set_option linter.unusedSimpArgs false
open Go.RowKit Go.Proofs.YtabomfmjepmkjaaW.PrintWords Go.Proofs.YtabomfmjepmkjaaW.PrintLast Go.Proofs.YtabomfmjepmkjaaW.PrintMore Go.Proofs.Ytabomfmjepmkjaa.Lib Go.Proofs.Ytabomfmjepmkjaa.Mem Go.Proofs.Ytabomfmjepmkjaa.Txt
open Go.MapKept Go.ChangeMaps
def absT (n : Int) : Int := if n < 0 then -(n + 1) else n
theorem abs_is {n : Int} (h0 : -9223372036854775808 ≤ n) (h1 : n < 9223372036854775808) : P.gristmilllaw12_abs.f n = some (absT n) ∧ 0 ≤ absT n ∧ absT n < 9223372036854775808 := by
  unfold P.gristmilllaw12_abs.f absT
  by_cases h : n < 0
  · rw [if_pos h, if_pos h]
    refine ⟨?_, by omega, by omega⟩
    congr 1
    unfold wrap64
    omega
  · rw [if_neg h, if_neg h]
    exact ⟨rfl, by omega, h1⟩
theorem cat_f (i : Nat) : (⟨#[102]⟩ : ByteArray) ++ bs (numT i) = bs (fname i) := by
  rw [bs_eq]
  simp [bs, fname]
theorem sN_u0 : sN 1000 = u0 (fsN 1000) := by
  unfold sN u0
  rw [show ((1000 : Nat) : Int) = 1000 from rfl]
theorem shortG : Shorts [tG] := fun t ht => by rw [List.mem_singleton.1 ht]; decide
inductive RelFull (w : World) (p : Nat) (v : Value) (w' : World) : Prop
  | mk (i : Nat) (e : v = .int .i64 i) (hi : i ≤ 1000) (hd : DkAt w' (fun k => w.heap.size ≤ k) p (sN i)) (hb : Below w.heap.size w w')
theorem row_at {E : Nat} {w : World} {base : Nat} {ok : Nat → Prop} {A : Option Addr} {n c : Nat} {xs : List Int} (h : (Kd.int .u8).R E w base ok (.slice A n c) xs) (i : Nat) (hi : i < n) :
    ∃ g, A = some ⟨g, 0, none⟩ ∧ w.cell? ⟨g, i, none⟩ = some (.int .u8 (xs.getD i 0)) ∧ w.frozen? ⟨g, i, none⟩ = false ∧ ok g ∧ xs.length = n := by
  have hl := (R_len h).1
  have ho := (Kd.own_of_R h).2
  rcases ho with ⟨e, h0⟩ | ⟨g, cap, cur, e, hb, hh, _⟩
  · injection e with _ e2 _
    omega
  · injection e with e1 e2 e3
    subst e1
    obtain ⟨cs, hcl, hM, hcc⟩ := Kd.R_getA h 0 (i : Int) (by omega) (by omega)
    rw [Int.toNat_natCast] at hM hcc
    have e4 : cs = [.int .u8 (xs.getD i 0)] := hM
    subst e4
    have := hcc 0 _ rfl
    have e1 : (Kd.int .u8).sz = 1 := rfl
    rw [e1, show i * 1 + 0 = i by omega, add_at, Nat.zero_add] at this
    exact ⟨g, rfl, this, blk_frozen hh i, h.1 g rfl, hl.symm⟩
inductive RelSpoil (w w0 : World) (ok : Nat → Prop) (p n : Nat) (base : Nat) (s : DS) (rv : Value) (v : Value) (w' : World) : Prop
  | mk (i : Nat) (xs : List Int) (e : v = .int .i64 i) (hi : i ≤ n) (hl : xs.length = n) (hr : (Kd.int .u8).R 5 w' base (fun k => base ≤ k ∧ k < w0.heap.size) rv xs) (hd : DkAt w' ok p s) (hb : Below w.heap.size w w')
set_option maxRecDepth 100000 in
set_option maxHeartbeats 3200000 in
theorem full_calls (which : Int) (xs : List Int) (n c : Nat) (A : Option Addr) (w : World) (h0 : -9223372036854775808 ≤ which) (h1 : which < 9223372036854775808) (hC : Kd.C (Kd.int .u8) w A n xs) (hfit : n ≤ 140737488355328) :
    Calls Try.prog 3 #[.int .i64 which, .slice A n c] w fun e w' => e = .returned (.bool true) ∧ Below w.heap.size w w' := by
  obtain rfl := hC.1
  have HC := Aside0.mk hC
  have HFit := Aside0.mk hfit
  obtain ⟨habs, ha0, ha1⟩ := abs_is h0 h1
  have HAbs := Aside0.mk habs
  generalize absT which = a at *
  clear hC hfit habs h0 h1
  go_enter Try.func3, Try.ntmps3
  go_wp2_with fail
  refine (awake_calls w).mono ?_
  rintro e w1 ⟨rfl, hb⟩
  have HB1 := Aside0.mk hb
  clear hb
  go_wp2_with fail
  refine (new_calls w1).mono ?_
  rintro e w2 ⟨p, rfl, hd, hb, _⟩
  have HS := Aside0.mk (show RelFull w p (.int .i64 0) w2 from .mk 0 rfl (Nat.zero_le _) (hd.mono (fun k hk => hk.elim False.elim (fun h => Nat.le_trans HB1.out.size h.1))) (below_then HB1.out HB1.out.size hb))
  clear hd hb HB1
  go_wp2_with fail
  go_loopw [7] (fun v7 w' => RelFull w p v7 w') (fun v7 _ => 1000 - (intOf v7).toNat)
  case atStart => exact HS.out
  case round =>
    clear HS
    obtain ⟨i, rfl, hi, hd, hb⟩ := hrel
    have HD := Aside0.mk hd
    have HB := Aside0.mk hb
    clear hd hb
    by_cases hlt : i < 1000
    · have hii : (i : Int) < 1000 := by omega
      have HNum := Aside0.mk (P.gristmilllaw12_number.calls 4 (i : Int) (bs (numT i)) wr (num_ok hlt).2.2)
      have hcat := cat_f i
      have hsz : ¬ 9223372036854775807 < 1 + (bs (numT i)).size := by
        have := short_f i
        unfold fname at this
        rw [bs_size]
        simp at this
        omega
      have HSh := Aside0.mk (show Shorts [fname i] from fun t ht => by rw [List.mem_singleton.1 ht]; have := short_f i; omega)
      have HSt := Aside0.mk (step_full i hlt)
      have HLk := Aside0.mk (show look (sN i).fs (fname i) = none from fsN_no (Nat.le_refl _) hlt)
      generalize bs (numT i) = r at *
      go_wp2_with fail
      refine HNum.out.mono ?_
      rintro e w3 ⟨rfl, hdr⟩
      have HD3 := Aside0.mk (HD.out.below hdr.below)
      have HB3 := Aside0.mk (below_then HB.out HB.out.size hdr.below)
      clear hdr
      go_wp2_with fail
      refine (append_calls w3 _ p 0 0 (sN i) (fname i) none [] HD3.out HSh.out ⟨by show (0 : Int) ≤ (i : Int); omega, by show (i : Int) < _; omega⟩ (Kd.C_nil _ _) (by rw [HLk.out]; decide)).mono ?_
      rintro e w4 ⟨rfl, hd, ho⟩
      rw [HSt.out] at hd ⊢
      have HD4 := Aside0.mk (hd.mono (ok' := fun k => w.heap.size ≤ k) (fun k hk => hk.elim id (fun h => Nat.le_trans HB3.out.size h.1)))
      have HB4 := Aside0.mk (HB3.out.trans (ho.below HB3.out.size (fun _ h => h)))
      clear hd ho hcat
      simp only
      go_wp2_with fail
      go_roundw
      case rel => exact .mk (i + 1) (by go_num) (by omega) HD4.out HB4.out
      case measure => simp [intOf]; omega
    · obtain rfl : i = 1000 := by omega
      rw [sN_u0] at HD
      obtain ⟨j, hj0, hj1⟩ : ∃ j : Nat, Int.tmod a 1000 = (j : Int) ∧ j < 1000 := by
        have e : Int.tmod a 1000 = a % 1000 := Int.tmod_eq_emod_of_nonneg ha0
        exact ⟨(a % 1000).toNat, by omega, by omega⟩
      have hnd := fsN_nd (Nat.le_refl 1000)
      have hlen := fsN_len 1000
      have hg := fsN_g 1000
      have hk := fsN_yes (Nat.le_refl 1000) hj1
      have hnk := (num_ok hj1).2.1
      have hne := ne_g j
      have HNum := Aside0.mk (fun w => P.gristmilllaw12_number.calls 4 (j : Int) (bs (numT j)) w (num_ok hj1).2.2)
      have hcat := cat_f j
      have hsz : ¬ 9223372036854775807 < 1 + (bs (numT j)).size := by
        have := short_f j
        unfold fname at this
        rw [bs_size]
        simp at this
        omega
      have HShK := Aside0.mk (show Shorts [fname j] from fun t ht => by rw [List.mem_singleton.1 ht]; have := short_f j; omega)
      generalize fsN 1000 = fs at *
      generalize fname j = k at *
      generalize bs (numT j) = r at *
      have F1 := Aside0.mk (full1 hnd hlen hg hk hnk hne)
      have F2 := Aside0.mk (full2 hnd hlen hg hk hnk hne xs)
      have F3 := Aside0.mk (full3 hnd hlen hg hk hnk hne xs)
      have F4 := Aside0.mk (full4 hnd hlen hg hk hnk hne xs)
      have F5 := Aside0.mk (full5 hnd hlen hg hk hnk hne xs)
      have F6 := Aside0.mk (full6 hnd hlen hg hk hnk hne xs)
      have L1 := Aside0.mk (look1 hnd hlen hg hk hnk hne xs)
      have L2 := Aside0.mk (look2 hnd hlen hg hk hnk hne xs)
      have L3 := Aside0.mk (look2g hnd hlen hg hk hnk hne xs)
      have LK := Aside0.mk (show look (u0 fs).fs k = some ([], 0) from hk)
      have LG := Aside0.mk (show look (u0 fs).fs tG = none from hg)
      have L4 := Aside0.mk (show look (u3 fs k xs).fs k = none by
        show look (putF (u2 fs k xs).fs tG ([], 0)) k = none
        rw [look_put, if_neg (Ne.symm hne), L2.out])
      have O0 := Aside0.mk (show ops62 (u0 fs) from ⟨by show (0 : Int) ≤ 1000; decide, by show (1000 : Int) < 4611686018427387904; decide⟩)
      have O1 := Aside0.mk (show ops62 (u1 fs k xs) from ⟨by show (0 : Int) ≤ 1001; decide, by show (1001 : Int) < 4611686018427387904; decide⟩)
      have O2 := Aside0.mk (show ops62 (u2 fs k xs) from ⟨by show (0 : Int) ≤ 1002; decide, by show (1002 : Int) < 4611686018427387904; decide⟩)
      have O3 := Aside0.mk (show ops62 (u3 fs k xs) from ⟨by show (0 : Int) ≤ 1003; decide, by show (1003 : Int) < 4611686018427387904; decide⟩)
      clear hnd hlen hg hk hnk hne hlt hj1
      go_wp2_with fail
      refine (P.gristmilllaw12_abs.calls which a wr HAbs.out).mono ?_
      rintro e w5 ⟨rfl, hdr⟩
      have HD5 := Aside0.mk (HD.out.below hdr.below)
      have HB5 := Aside0.mk (below_then HB.out HB.out.size hdr.below)
      clear hdr
      go_wp2_with fail
      refine (HNum.out w5).mono ?_
      rintro e w6 ⟨rfl, hdr⟩
      have HD6 := Aside0.mk (HD5.out.below hdr.below)
      have HB6 := Aside0.mk (below_then HB5.out HB5.out.size hdr.below)
      clear hdr
      go_wp2_with fail
      clear hcat hsz hj0 ha0 ha1
      refine (append_calls w6 _ p 0 0 (u0 fs) tG none [] HD6.out shortG O0.out (Kd.C_nil _ _) (by rw [LG.out]; decide)).mono ?_
      rintro e w7 ⟨rfl, hd, ho⟩
      rw [F1.out] at hd ⊢
      have HD7 := Aside0.mk ((hd.mono (ok' := fun k => w.heap.size ≤ k) (fun k hk => hk.elim id (fun h => Nat.le_trans HB6.out.size h.1))).bound)
      have HB7 := Aside0.mk (HB6.out.trans (ho.below HB6.out.size (fun _ h => h)))
      clear hd ho
      simp only
      go_wp2_with (first
        | ((with_reducible refine gate_builtin (b := .append) (xs := #[.tmp 43, .tmp 44]) rfl ?_); at_builtin; refine Kd.R_append_rows (Kd.int .u8) (w0 := w7) w7.heap.size rfl (.tmp 43) (.tmp 44) 22 5 (.int .u8 0) 1 rfl Try.underlying22 info5 rfl (by decide) (by omega) (.slice none 0 0) ([]) (xs) (A) (xs).length (c) (fun _ => True) (fun _ => False) rfl rfl (Kd.R_nil _ _ _ _ _) (Kd.C_below HC.out HB7.out) (fun _ _ h => h) (fun _ h => h.elim) (fun _ _ => trivial) (Below.refl w7.heap.size w7) (Below.refl w7.heap.size w7).size (by rw [List.length_nil, Nat.zero_add, Nat.mul_one]; exact HFit.out) ?_; intro v8 w8 ho8 hb8 hg8 ha8; have HO8 := Aside0.mk ho8; have HB8 := Aside0.mk hb8; clear ho8 hb8 hg8 ha8)
        | fail)
      rw [List.nil_append] at HO8
      obtain ⟨A8, c8, rfl, hc8, hC8⟩ := Kd.R_reads HO8.out
      have HR8 := Aside0.mk (show (Kd.int .u8).R 5 w8 w7.heap.size (fun k => w7.heap.size ≤ k ∧ k < w8.heap.size) (.slice A8 xs.length c8) xs from Kd.R_mono (Kd.R_bound HO8.out) (fun _ hk => ⟨hk.2.1, hk.2.2.1⟩))
      have HBw8 := Aside0.mk (below_then HB7.out HB7.out.size HB8.out)
      have HD8 := Aside0.mk (HD7.out.below HB8.out)
      clear hc8 hC8 HO8
      refine (append_calls w8 _ p xs.length c8 (u0 fs) k A8 xs HD8.out HShK.out O0.out (Kd.R_reads' HR8.out).2.2 (by rw [LK.out]; simpa using HFit.out)).mono ?_
      rintro e w9 ⟨rfl, hd, ho⟩
      rw [F2.out] at hd ⊢
      have HD9 := Aside0.mk hd
      have HB9 := Aside0.mk (HBw8.out.trans (ho.below HBw8.out.size (fun _ h => h.1)))
      have HR9 := Aside0.mk (R_only HR8.out ho (fun k h1 _ _ h2 => by omega))
      have HZ := Aside0.mk (show w.heap.size ≤ w7.heap.size ∧ w7.heap.size ≤ w8.heap.size ∧ w8.heap.size ≤ w9.heap.size from ⟨HB7.out.size, HB8.out.size, ho.size⟩)
      clear hd ho
      simp only
      go_wp2_with fail
      go_loopw [12] (fun v12 w' => RelSpoil w w8 (okx (fun k => w.heap.size ≤ k ∧ k < w7.heap.size) w8 w9) p xs.length w7.heap.size (u1 fs k xs) (.slice A8 xs.length c8) v12 w') (fun v12 _ => xs.length - (intOf v12).toNat)
      case atStart => exact .mk 0 xs rfl (Nat.zero_le _) rfl HR9.out HD9.out HB9.out
      case round =>
        clear HR9 HD9 HB9
        obtain ⟨i, ys, rfl, hi, hyl, hr, hd, hb⟩ := hrel
        have HR := Aside0.mk hr
        have HDi := Aside0.mk hd
        have HBi := Aside0.mk hb
        have HYl := Aside0.mk hyl
        clear hr hd hb hyl
        by_cases hlt : i < xs.length
        · have hii : (i : Int) < (xs.length : Int) := by omega
          obtain ⟨g, e, hcell, hfz, hokg, _⟩ := row_at HR.out i hlt
          have HP := Aside0.mk (fun x => Kd.R_putg (e ▸ HR.out) (i : Int) x)
          have HOk := Aside0.mk hokg
          subst e
          clear hokg
          generalize ys.getD i 0 = y at hcell
          have hle : xs.length ≤ 140737488355328 := HFit.out
          go_wp2_with fail
          have hp := HP.out (bits .xor .u8 y 255)
          rw [Int.toNat_natCast] at hp
          have HP2 := Aside0.mk hp
          have HDn := Aside0.mk (HDi.out.step (ok' := fun k => k = g) ⟨hp.2.os, hp.2.tape, hp.2.output, hp.2.size, fun k hk hn => hp.2.block k hk (fun e => hn (Option.some.inj e))⟩ (fun k h1 h2 e => by have := HOk.out; have e2 : k = g := e; have := HZ.out; rcases h1 with h1 | h1 <;> omega))
          clear hp
          go_roundw
          case rel => exact .mk (i + 1) _ (by go_num) (by omega) (by rw [List.length_set]; exact HYl.out) HP2.out.1 HDn.out (below_set HBi.out (by have := HZ.out; have := HOk.out; omega))
          case measure => simp [intOf]; omega
        · obtain rfl : i = xs.length := by omega
          have hii : decide (xs.length < xs.length) = false := decide_eq_false (by omega)
          obtain ⟨wA, hA⟩ : ∃ x, x = wr := ⟨_, rfl⟩
          subst hA
          have HD10 := Aside0.mk HDi.out.bound
          clear hii hlt HR HYl
          go_wp2_with fail
          refine (read_yes wA _ p (u1 fs k xs) k HD10.out HShK.out F3.out (by rw [L1.out]; exact HFit.out)).mono ?_
          rintro e w11 ⟨v11, rfl, hr, hb⟩
          rw [L1.out] at hr
          have hr2 : (Kd.int .u8).R 5 w11 wA.heap.size (fun _ => True) v11 xs := hr
          obtain ⟨A11, c11, rfl, hc11, hC11⟩ := Kd.R_reads hr2
          have HR11 := Aside0.mk (show (Kd.int .u8).R 5 w11 wA.heap.size (fun k => wA.heap.size ≤ k ∧ k < w11.heap.size) (.slice A11 xs.length c11) xs from Kd.R_mono (Kd.R_bound hr2) (fun _ hk => ⟨hk.2.1, hk.2.2.1⟩))
          have HD11 := Aside0.mk (HD10.out.below hb)
          have HB11 := Aside0.mk (below_then HBi.out HBi.out.size hb)
          have hs11 := Kd.C_string Try.underlying22 Try.underlying5 Try.underlying9 (c := c11) hC11
          have HSt := Aside0.mk (fun (w' : World) (A : Option Addr) (c : Nat) (h : Kd.C (Kd.int .u8) w' A xs.length xs) => Kd.C_string Try.underlying22 Try.underlying5 Try.underlying9 (c := c) h)
          have HZ2 := Aside0.mk (show w.heap.size ≤ wA.heap.size ∧ wA.heap.size ≤ w11.heap.size from ⟨HBi.out.size, hb.size⟩)
          generalize strOfNums xs = st at *
          clear hr hr2 hb hc11 hC11
          go_wp2_with fail
          clear hs11
          go_loopw [16] (fun v16 w' => RelSpoil w w11 (fun k => okx (fun k => w.heap.size ≤ k ∧ k < w7.heap.size) w8 w9 k ∧ k < wA.heap.size) p xs.length wA.heap.size (u1 fs k xs) (.slice A11 xs.length c11) v16 w') (fun v16 _ => xs.length - (intOf v16).toNat)
          case atStart => exact .mk 0 xs rfl (Nat.zero_le _) rfl HR11.out HD11.out HB11.out
          case round =>
            clear HR11 HD11 HB11 HDi HBi HD10
            obtain ⟨i, ys, rfl, hi, hyl, hr, hd, hb⟩ := hrel
            have HR := Aside0.mk hr
            have HDi := Aside0.mk hd
            have HBi := Aside0.mk hb
            have HYl := Aside0.mk hyl
            clear hr hd hb hyl
            by_cases hlt : i < xs.length
            · have hii : (i : Int) < (xs.length : Int) := by omega
              obtain ⟨g, e, hcell, hfz, hokg, _⟩ := row_at HR.out i hlt
              have HP := Aside0.mk (fun x => Kd.R_putg (e ▸ HR.out) (i : Int) x)
              have HOk := Aside0.mk hokg
              subst e
              clear hokg
              generalize ys.getD i 0 = y at hcell
              have hle : xs.length ≤ 140737488355328 := HFit.out
              go_wp2_with fail
              have hp := HP.out (bits .xor .u8 y 255)
              rw [Int.toNat_natCast] at hp
              have HP2 := Aside0.mk hp
              have HDn := Aside0.mk (HDi.out.step (ok' := fun k => k = g) ⟨hp.2.os, hp.2.tape, hp.2.output, hp.2.size, fun k hk hn => hp.2.block k hk (fun e => hn (Option.some.inj e))⟩ (fun k h1 h2 e => by have := HOk.out; have e2 : k = g := e; have := h1.2; omega))
              clear hp
              go_roundw
              case rel => exact .mk (i + 1) _ (by go_num) (by omega) (by rw [List.length_set]; exact HYl.out) HP2.out.1 HDn.out (below_set HBi.out (by have := HZ2.out; have := HOk.out; omega))
              case measure => simp [intOf]; omega
            · obtain rfl : i = xs.length := by omega
              have hii : decide (xs.length < xs.length) = false := decide_eq_false (by omega)
              clear hii hlt HR HYl
              go_wp2_with fail
              refine (read_yes wr _ p (u1 fs k xs) k HDi.out HShK.out F3.out (by rw [L1.out]; exact HFit.out)).mono ?_
              rintro e w13 ⟨v13, rfl, hr, hb⟩
              rw [L1.out] at hr
              have hr2 : (Kd.int .u8).R 5 w13 wr.heap.size (fun _ => True) v13 xs := hr
              obtain ⟨A13, c13, rfl, hc13, hC13⟩ := Kd.R_reads hr2
              have HR13 := Aside0.mk (show (Kd.int .u8).R 5 w13 wr.heap.size (fun k => wr.heap.size ≤ k ∧ k < w13.heap.size) (.slice A13 xs.length c13) xs from Kd.R_mono (Kd.R_bound hr2) (fun _ hk => ⟨hk.2.1, hk.2.2.1⟩))
              have HD13 := Aside0.mk (HDi.out.bound.below hb)
              have HB13 := Aside0.mk (below_then HBi.out HBi.out.size hb)
              have HZ3 := Aside0.mk hb.size
              clear hr hr2 hb hc13 hC13
              go_wp2_with fail
              refine (remove_calls w13 _ p (u1 fs k xs) k HD13.out HShK.out O1.out).mono ?_
              rintro e w14 ⟨rfl, hd, ho⟩
              rw [F4.out] at hd ⊢
              have HD14 := Aside0.mk hd.bound
              have HB14 := Aside0.mk (HB13.out.trans (ho.below HB13.out.size (fun k h => by have := HZ.out; rcases h.1.1 with h | h <;> omega)))
              have HR14 := Aside0.mk (R_only HR13.out ho (fun k h1 _ _ h2 => by have := h2.2; omega))
              have HZ4 := Aside0.mk ho.size
              clear hd ho
              simp only
              go_wp2_with fail
              refine (append_calls w14 _ p 0 0 (u2 fs k xs) tG none [] HD14.out shortG O2.out (Kd.C_nil _ _) (by rw [L3.out]; decide)).mono ?_
              rintro e w15 ⟨rfl, hd, ho⟩
              rw [F5.out] at hd ⊢
              have HD15 := Aside0.mk hd
              have HB15 := Aside0.mk (HB14.out.trans (ho.below HB14.out.size (fun k h => by have := HZ.out; rcases h.1.1.1 with h | h <;> omega)))
              have HR15 := Aside0.mk (R_only HR14.out ho (fun k h1 _ _ h2 => by have := h2.1.2; omega))
              have HZ5 := Aside0.mk ho.size
              clear hd ho
              simp only
              go_wp2_with fail
              refine (append_calls w15 _ p 0 0 (u3 fs k xs) k none [] HD15.out HShK.out O3.out (Kd.C_nil _ _) (by rw [L4.out]; decide)).mono ?_
              rintro e w16 ⟨rfl, hd, ho⟩
              rw [F6.out]
              have hB16 := HB15.out.trans (ho.below HB15.out.size (fun k h => by have := HZ.out; have := HB14.out.size; rcases h with h | h; (rcases h.1.1.1 with h | h <;> omega); omega))
              have hR16 := R_only HR15.out ho (fun k h1 _ _ h2 => by
                have := HZ4.out
                rcases h2 with h2 | h2
                · have := h2.1.2; omega
                · omega)
              have HB16 := Aside0.mk hB16
              have hsb := HSt.out w16 A c (Kd.C_below HC.out hB16)
              have hsy := HSt.out w16 A13 c13 (Kd.R_reads' hR16).2.2
              have hst : (st.toList == st.toList) = true := beq_self_eq_true _
              clear hd ho hB16 hR16
              simp only
              go_wp2_with fail
              go_ret
              exact ⟨rfl, HB16.out⟩
end Go.Proofs.Ytabomfmjepmkjaa.Dk
end

section
namespace Go.Proofs.Ytabomfmjepmkjaa.Ext
set_option linter.unusedVariables false
set_option linter.unusedSimpArgs false
open Go.RowKit Go.Proofs.YtabomfmjepmkjaaW.PrintWords
open Go.ChangeShapes Go.WideShapes Go.ChangeAt Go.Deep
def Opens (P : Program) {α : Type} (d : Kd α) (t : TypeId) (Q : α → Prop) : Prop :=
  ∀ (H : Type) (enc : TypeId × Value → H) (W : World) (base : Nat) (held : Bool) (fuel : Nat) (cs : List Value) (x : DataW H × List MemPlace),
    DataW.trod enc P W base (fun _ => true) held fuel t cs = some x → (∀ n ∈ x.1.weights P t, n ≤ reachBytes) → ∃ v, d.K W v cs ∧ Q v
theorem opens_int {P : Program} {t : TypeId} {k : IntKind} (ht : P.underlying t = some (.int k)) : Opens P (Kd.int k) t (fun n => (Lit.int k n).wf = true) := by
  intro H enc W base held fuel cs x h _
  obtain ⟨n, rfl, _, hw⟩ := DataW.trod_int ht h
  exact ⟨n, rfl, hw⟩
theorem weights_all {H : Type} {P : Program} {e : TypeId} {d : DataW H} : ∀ {ds : List (DataW H)}, d ∈ ds → ∀ n ∈ d.weights P e, n ∈ DataW.weightsAll P e ds
  | [], h, _, _ => by cases h
  | d0 :: ds, h, n, hn => by
    simp only [DataW.weightsAll, List.mem_append]
    rcases List.mem_cons.1 h with rfl | h
    · exact .inl hn
    · exact .inr (weights_all h n hn)
theorem opens_slice {P : Program} {α : Type} {d : Kd α} {t e : TypeId} {ek : Nat} {Q : α → Prop} (ht : P.underlying t = some (.slice e)) (hd : Opens P d e Q) (hc : P.cellsOf e = d.sz) :
    Opens P (Kd.slice ek d) t (fun l => (∀ x ∈ l, Q x) ∧ l.length * P.bytesOf e ≤ reachBytes) := by
  intro H enc W base held fuel cs x h hw
  rcases open_slice ht h with ⟨rfl, _⟩ | ⟨a, len, cap, m, n, D, Pl, rfl, hb, hl, hm, hmm, rfl, hx⟩
  · exact ⟨[], ⟨none, 0, rfl, Nat.le_refl _, Kd.C_nil _ _⟩, by simp, by simp⟩
  have hml : len ≤ m := by rw [hmm]; simpa using hl
  have hat : ∀ i, i < len → ∃ v cs', d.K W v cs' ∧ Q v ∧ W.cells? base (a.add (i * P.cellsOf e)) (P.cellsOf e) = some cs' := by
    intro i hi
    obtain ⟨cs', h1, h2⟩ := hx i (Nat.lt_of_lt_of_le hi hml)
    obtain ⟨v, hv, hq⟩ := hd H enc W base held n cs' _ h2 (fun n hn => hw n (by
      simp only [DataW.weights, ht, List.mem_cons, List.mem_append]
      exact .inr (.inl (weights_all (List.mem_map.2 ⟨i, by simpa using hi, rfl⟩) n hn))))
    exact ⟨v, cs', hv, hq, h1⟩
  have hl2 : ∃ l : List α, l.length = len ∧ ∀ i v, l[i]? = some v → ∃ cs', d.K W v cs' ∧ Q v ∧ W.cells? base (a.add (i * P.cellsOf e)) (P.cellsOf e) = some cs' := by
    clear hw hx hmm hml hm hl h
    induction len with
    | zero => exact ⟨[], rfl, fun i v h => by simp at h⟩
    | succ k ih =>
      obtain ⟨l, hl, hr⟩ := ih (fun i hi => hat i (by omega))
      obtain ⟨v, cs', h1, h2, h3⟩ := hat k (by omega)
      refine ⟨l ++ [v], by simp [hl], fun i u hu => ?_⟩
      by_cases hi : i < l.length
      · rw [List.getElem?_append_left hi] at hu
        exact hr i u hu
      · rw [List.getElem?_append_right (by omega)] at hu
        have hi0 : i - l.length = 0 := by
          rcases hz : i - l.length with _ | q
          · rfl
          · rw [hz] at hu; simp at hu
        rw [hi0] at hu
        simp only [List.getElem?_cons_zero, Option.some.injEq] at hu
        subst hu
        have : i = k := by omega
        subst this
        exact ⟨cs', h1, h2, h3⟩
  obtain ⟨l, rfl, hr⟩ := hl2
  refine ⟨l, ⟨some a, cap, rfl, hl, rfl, Nat.le_trans hl (by simpa [maxLen] using hm), fun _ => ⟨a, rfl, fun j p hj => ?_⟩⟩, ?_, ?_⟩
  · obtain ⟨cs', h1, _, h3⟩ := hr j p hj
    obtain ⟨_, hlen, hcell⟩ := World.cells?_some h3
    refine ⟨cs', d.K_len h1, h1, fun i u hu => ?_⟩
    have hi : i < P.cellsOf e := by have := (List.getElem?_eq_some_iff.1 hu).1; omega
    have := hcell i hi
    rw [Go.Deep.add_add, hu, hc] at this
    exact this
  · intro y hy
    obtain ⟨i, hi⟩ := List.mem_iff_getElem?.1 hy
    obtain ⟨_, _, h2, _⟩ := hr i y hi
    exact h2
  · have := hw (((List.range l.length).map D).length + ((List.range (m - l.length)).map fun j => D (l.length + j)).length |> (· * P.bytesOf e)) (by
      simp [DataW.weights, ht])
    simp only [List.length_map, List.length_range] at this
    exact Nat.le_trans (Nat.mul_le_mul_right _ (Nat.le_add_right _ _)) this
theorem opened {P : Program} {α : Type} {d : Kd α} {t : TypeId} {Q : α → Prop} (h : Opens P d t Q) {H : Type} {enc : TypeId × Value → H} {W : World} {base : Nat} {held : Bool} {v : Value} {x : DataW H} {p : List MemPlace}
    (ht : DataW.Trod enc P W base (fun _ => true) held t v x p) {ts : List TypeId} {ds : List (DataW H)} (hsz : (DataW.weightsEach P ts ds).all (· ≤ reachBytes) = true) (j : Nat) (hj : ts[j]? = some t) (hd : ds[j]? = some x) :
    ∃ a, d.K W a v.cells.toList ∧ Q a := by
  obtain ⟨fuel, hf⟩ := ht
  refine h H enc W base held fuel _ _ hf (fun n hn => ?_)
  have := List.all_eq_true.1 hsz n (DataW.weights_mem_each hj hd n hn)
  simpa using this
theorem open_row {P : Program} {α : Type} {d : Kd α} {t e : TypeId} {Q : α → Prop} (O : Opens P d e Q) (hs : P.underlying t = some (.slice e)) (hc : P.cellsOf e = d.sz) {H : Type} {enc : TypeId × Value → H} {W : World} {base b0 : Nat} {held : Bool} {r : Reach} {v : Value}
    {x : DataW H} {p : List MemPlace} (hv : Value.okWide P W r b0 t v) (ht : DataW.Trod enc P W base (fun _ => true) held t v x p) {ts : List TypeId} {ds : List (DataW H)} (hsz : (DataW.weightsEach P ts ds).all (· ≤ reachBytes) = true)
    (j : Nat) (hj : ts[j]? = some t) (hd : ds[j]? = some x) : ∃ A l c, v = .slice A l.length c ∧ l.length ≤ c ∧ d.C W A l.length l ∧ (∀ y ∈ l, Q y) ∧ l.length * P.bytesOf e ≤ reachBytes := by
  obtain ⟨l, hK, hQ, hb⟩ := opened (opens_slice (ek := 0) hs O hc) ht hsz j hj hd
  obtain ⟨A, len, cap, rfl⟩ := okWide_slice hs hv
  obtain ⟨A', c, hcs, hl, hC⟩ := hK
  have hcs' : [Value.slice A len cap] = [Value.slice A' l.length c] := hcs
  injection hcs' with h1 _
  injection h1 with h2 h3 h4
  subst h2; subst h3; subst h4
  exact ⟨A, l, cap, rfl, hl, hC, hQ, hb⟩
end Go.Proofs.Ytabomfmjepmkjaa.Ext
end

section
namespace Go.Proofs.Ytabomfmjepmkjaa.diskFull
set_option linter.unusedVariables false
set_option linter.unusedSimpArgs false
open Go.RowKit Go.Proofs.YtabomfmjepmkjaaW.PrintWords Go.Proofs.Ytabomfmjepmkjaa.Lib
open Go.ChangeShapes Go.WideShapes Go.ChangeAt
open Go.ChangeMaps (open_string shut_string)
theorem own : ownKnob Try.prog.godebug = none := by kernel_rfl
theorem laidOut : laidOutB Try.prog = true := by kernel_rfl
open Go.Proofs.Ytabomfmjepmkjaa.Ext Go.Proofs.Ytabomfmjepmkjaa.Dk
theorem i64_bd {n : Int} (h : (Lit.int .i64 n).wf = true) : -9223372036854775808 ≤ n ∧ n ≤ 9223372036854775807 := by
  simp only [Lit.wf, Bool.and_eq_true, decide_eq_true_eq] at h; exact h
theorem fits {n c : Nat} (hc : c = 1) (h : n * c ≤ reachBytes) : n ≤ 140737488355328 := by
  subst hc
  have : reachBytes ≤ 140737488355328 := by decide
  omega
set_option maxRecDepth 100000 in
theorem lifted (os : Os) (started : os.Started) (H : Type) (enc : TypeId × Value → H) :
    ReturnsInHanded {} Try.checked os 3 .any (Rows.diskFullSpec.pre6 enc Try.prog Try.f3 Rows.diskFullRow.domain false) (Rows.diskFullSpec.post enc Try.prog Try.f3 false true false false) := by
  refine returnsInHanded_of_change_sized (C := Try.checked) own started (by kernel_rfl) Try.func3
    (ChangeSpec.witness6 (enc := enc) (C := Try.checked) false ⟨#[], #[.int .i64 0, .slice none 0 0], []⟩ 8 (by kernel_rfl) (by kernel_rfl) (by kernel_rfl) (by kernel_rfl)) ?_
  intro W base args ds gs before hval0 hW hcnd hsz _
  have hval : ∀ (j : Nat) t v, Try.f3.params[j]? = some t → args[j]? = some v → Value.okWide Try.prog W .any base t v := hval0
  have hW' := hW
  obtain ⟨p, q, hA0, hV, rfl, hfz, hnd⟩ := hW
  have hA : DataW.TrodAll enc Try.prog W 0 (fun _ => true) true Try.f3.params.toList args.toList ds p := hA0
  rw [Try.params3] at hA hval
  obtain ⟨v0, vs0, d0, ds0, p0, q0, hargs, rfl, rfl, h0, r0⟩ := trodAll_cons hA
  obtain ⟨v1, vs1, d1, ds1, p1, q1, rfl, rfl, rfl, h1, r1⟩ := trodAll_cons r0
  obtain ⟨rfl, rfl, rfl⟩ := trodAll_nil r1
  obtain rfl : args = #[v0, v1] := by cases args; simp_all
  obtain ⟨rfl, rfl⟩ := trodVars_none hV
  have k0 := h0
  have lt0 : ∀ x ∈ p0, x.block < W.heap.size := by obtain ⟨m, hm⟩ := k0; exact DataW.trod_lt m _ _ _ hm
  obtain ⟨a0, rfl, _, _, w0⟩ := open_int Try.underlying3 (hval 0 _ v0 rfl rfl) h0
  have k1 := h1
  have lt1 : ∀ x ∈ p1, x.block < W.heap.size := by obtain ⟨m, hm⟩ := k1; exact DataW.trod_lt m _ _ _ hm
  obtain ⟨A1, l1, c1, rfl, hl1, hC1, hQ1, hb1⟩ := open_row (opens_int (k := .u8) Try.underlying5) Try.underlying22 (by kernel_rfl) (hval 1 _ v1 rfl rfl) h1 hsz 1 rfl rfl
  clear hA0 hval0
  refine (full_calls a0 l1 l1.length c1 A1 W (i64_bd w0).1 (by have := (i64_bd w0).2; omega) hC1 (fits (by kernel_rfl) hb1)).mono fun e W' ⟨he, bel⟩ => ?_
  subst he
  exact ⟨_, rfl, _, _, _, [], _, [], hW', trodAll_mk1 (shut_bool Try.underlying4 _), (trodAll_cons_mk (Below.trod laidOut (by kernel_rfl) (of_decide_eq_true (by kernel_rfl)) k0 bel lt0) (trodAll_cons_mk (Below.trod laidOut (by kernel_rfl) (of_decide_eq_true (by kernel_rfl)) k1 bel lt1) trodAll_mk0)), rfl, bel.frame _, fun h => by cases h⟩
theorem proved : Rows.DiskFullSaid :=
  OpenClaim.holds_of_wide 3 Try.f3 rfl rfl rfl rfl rfl rfl rfl ⟨rfl, rfl, rfl, rfl, rfl⟩ rfl rfl rfl rfl rfl (by kernel_rfl) Try.func3 (by kernel_rfl)
    (of_decide_eq_true (by kernel_rfl)) (by unfold Func.isWrapper; first | (rw [if_pos (by decide +kernel)]; kernel_rfl) | (rw [if_neg (by decide +kernel)]; exact ⟨rfl, rfl⟩))
    (fun os started H enc _ => lifted os started H enc)
end Go.Proofs.Ytabomfmjepmkjaa.diskFull
end
