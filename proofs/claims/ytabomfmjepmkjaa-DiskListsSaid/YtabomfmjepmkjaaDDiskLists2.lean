/- Texts of this repo, joined, without what this claim does not use: DkOps6, Shelf, KeysShelf, DkList, DkAwake, DkLook, DkListsP, Own, DkLists, OpenK, LawDiskLists. -/
import Derived.Test.YtabomfmjepmkjaaDDiskLists1
import Derived.Shelf.Small.Bits
import Derived.Shelf.Strconv.Itoa0
import Derived.Shelf.Sort.Plain
import Derived.Shelf.Strings.Prefix
import Derived.Shelf.Slices.In.SortNone
import Derived.Test.YtabomfmjepmkjaaProg
import Derived.Shelf.SlIter.Nil
import Derived.Ground.GgzProg
import Derived.Sort.OwnSorted
import Derived.Shelf.SlIter.Sorted
import Derived.WideKeyArgs2
import Derived.SizedLaws
import Derived.Deep.Slices
import Derived.Test.YtabomfmjepmkjaaRows
import Derived.ProofKit
import Derived.OpenShut
section
namespace Go.Proofs.Ytabomfmjepmkjaa.Dk
set_option linter.unusedVariables false
set_option linter.unusedSimpArgs false
open Go.RowKit Go.Proofs.YtabomfmjepmkjaaW.PrintWords Go.Proofs.YtabomfmjepmkjaaW.PrintLast Go.Proofs.YtabomfmjepmkjaaW.PrintMore Go.Proofs.Ytabomfmjepmkjaa.Lib Go.Proofs.Ytabomfmjepmkjaa.Mem Go.Proofs.Ytabomfmjepmkjaa.Txt
open Go.MapKept Go.ChangeMaps
theorem DkMs.synced {w w' : World} {ok : Nat → Prop} {p mb clock : Nat} {s : DS} {ms : List FM} {m : FM} (h : DkMs w ok p s mb clock ms) {i : Nat} (hi : ms[i]? = some m) (hw : w' = (w.setCell ⟨m.q, 1, none⟩ (.int .i64 (m.bytes.length : Int))).drew) :
    DkMs w' ok p { s with fs := s.fs.set i (m.name, m.bytes, m.bytes.length) } mb clock (ms.set i { m with syn := m.bytes.length }) ∧ Only ok w w' := by
  subst hw
  have hm : m ∈ ms := List.mem_of_getElem? hi
  have hf := h.files m hm
  have hsz : (w.setCell ⟨m.q, 1, none⟩ (.int .i64 (m.bytes.length : Int))).drew.heap.size = w.heap.size := by simp [World.setCell, World.drew]
  have hF : FAt ((w.setCell ⟨m.q, 1, none⟩ (.int .i64 (m.bytes.length : Int))).drew) ok { m with syn := m.bytes.length } :=
    ⟨hf.okq, blk_set hf.blk 1 _, hf.row.move (fun a ha => Below.heap_setCell w ⟨m.q, 1, none⟩ _ _ (Ne.symm (h.q_A hm hm a ha))), Nat.le_refl _⟩
  have := h.at_file (m' := { m with syn := m.bytes.length }) hi (((Only.refl (fun k => k = m.q ∨ ∃ a, m.A = some a ∧ k = a.block) w).set 1 (.inl (.inl rfl)) (.int .i64 (m.bytes.length : Int))).drew) (hF.step rfl (fun _ _ => rfl) (fun k hk => .inl hk)) rfl rfl rfl (fun a ha => .inl rfl)
  exact ⟨this.mono (fun k hk => hk.elim id (fun hk => by omega)), ((Only.refl ok w).set 1 (.inl hf.okq) _).drew⟩
set_option maxRecDepth 100000 in
set_option maxHeartbeats 400000 in
theorem sync1_calls (w : World) (ok : Nat → Prop) (p mb cl gb i : Nat) (s : DS) (ms : List FM) (m : FM) (h : DkMs w ok p s mb cl ms) (hi : ms[i]? = some m) (hg : w.heap[gb]? = some (.cells #[.pointer (some ⟨m.q, 0, none⟩)] 66 (0, 0))) :
    Calls Try.prog 45 #[.pointer (some ⟨gb, 0, none⟩)] w fun e w' => e = .returned (.tuple #[]) ∧ DkAt w' ok p { s with fs := s.fs.set i (m.name, m.bytes, m.bytes.length) } ∧ Only ok w w' := by
  have HH := Aside0.mk h
  have HI := Aside0.mk hi
  have hf := h.files m (List.mem_of_getElem? hi)
  have d0 : w.cell? ⟨m.q, 0, none⟩ = some (.slice m.A m.bytes.length m.c) := (blk_cell hf.blk 0).trans rfl
  have g1 := blk_frozen hf.blk 1
  have b0 : w.cell? ⟨gb, 0, none⟩ = some (.pointer (some ⟨m.q, 0, none⟩)) := (blk_cell hg 0).trans rfl
  have d1 : w.cell? ⟨m.q, 1, none⟩ = some (.int .i64 m.syn) := (blk_cell hf.blk 1).trans rfl
  clear h hi hf hg
  generalize hq : m.q = q at *
  have HQ := Aside0.mk hq
  clear hq
  go_enter Try.func45, Try.ntmps45
  go_wp2_with fail
  refine start_ (n := 9) (S := fun w' => w'.cell? ⟨gb, 0, none⟩ = some (.pointer (some ⟨q, 0, none⟩)) ∧ w'.cell? ⟨q, 0, none⟩ = some (.slice m.A m.bytes.length m.c) ∧ w'.cell? ⟨q, 1, none⟩ = some (.int .i64 m.syn) ∧ w'.frozen? ⟨q, 1, none⟩ = false) (ds := [8]) #[false, false, false, false, false, false, false, false, false] (by kernel_rfl) rfl rfl ⟨b0, d0, d1, g1⟩ (fun hHeld => ?_)
  refine take_ (i := 0) (N := some 1) (v := ?_) (a' := ?_) #[true, false, false, false, false, false, false, false, false] rfl rfl (by kernel_rfl) (fun _ _ _ h => h) (Or.inl ⟨by rfl, ?_⟩) hHeld ?_ ?_
  rotate_left
  · rintro w' ⟨s0, s1, s2, s3⟩
    go_simp
    with_reducible rfl
  rotate_left
  · simp only [Act.put, List.setIfInBounds_toArray, List.set_cons_zero, List.set_cons_succ, i64_w, i32_w]
    rfl
  refine take_ (i := 1) (N := some 2) (v := ?_) (a' := ?_) #[true, true, false, false, false, false, false, false, false] rfl rfl (by kernel_rfl) (fun _ _ _ h => h) (Or.inl ⟨by rfl, ?_⟩) hHeld ?_ ?_
  rotate_left
  · rintro w' ⟨s0, s1, s2, s3⟩
    go_simp
    with_reducible rfl
  rotate_left
  · simp only [Act.put, List.setIfInBounds_toArray, List.set_cons_zero, List.set_cons_succ, i64_w, i32_w]
    rfl
  refine pure_ (i := 2) (N := some 3) (v := ?_) (a' := ?_) #[true, true, true, false, false, false, false, false, false] rfl rfl (by kernel_rfl) (fun _ _ _ h => h) (Or.inl ⟨by rfl, ?_⟩) ?_ ?_
  rotate_left
  · intro w'
    go_simp
    with_reducible rfl
  rotate_left
  · simp only [Act.put, List.setIfInBounds_toArray, List.set_cons_zero, List.set_cons_succ, i64_w, i32_w]
    rfl
  refine pure_ (i := 3) (N := some 4) (v := ?_) (a' := ?_) #[true, true, true, true, false, false, false, false, false] rfl rfl (by kernel_rfl) (fun _ _ _ h => h) (Or.inl ⟨by rfl, ?_⟩) ?_ ?_
  rotate_left
  · intro w'
    go_simp
    with_reducible rfl
  rotate_left
  · simp only [Act.put, List.setIfInBounds_toArray, List.set_cons_zero, List.set_cons_succ, i64_w, i32_w]
    rfl
  refine take_ (i := 4) (N := some 5) (v := ?_) (a' := ?_) #[true, true, true, true, true, false, false, false, false] rfl rfl (by kernel_rfl) (fun _ _ _ h => h) (Or.inl ⟨by rfl, ?_⟩) hHeld ?_ ?_
  rotate_left
  · rintro w' ⟨s0, s1, s2, s3⟩
    go_simp
    with_reducible rfl
  rotate_left
  · simp only [Act.put, List.setIfInBounds_toArray, List.set_cons_zero, List.set_cons_succ, i64_w, i32_w]
    rfl
  refine pure_ (i := 5) (N := some 6) (v := ?_) (a' := ?_) #[true, true, true, true, true, true, false, false, false] rfl rfl (by kernel_rfl) (fun _ _ _ h => h) (Or.inl ⟨by rfl, ?_⟩) ?_ ?_
  rotate_left
  · intro w'
    go_simp
    with_reducible rfl
  rotate_left
  · simp only [Act.put, List.setIfInBounds_toArray, List.set_cons_zero, List.set_cons_succ, i64_w, i32_w]
    rfl
  refine pure_ (i := 6) (N := some 7) (v := ?_) (a' := ?_) #[true, true, true, true, true, true, true, false, false] rfl rfl (by kernel_rfl) (fun _ _ _ h => h) (Or.inl ⟨by rfl, ?_⟩) ?_ ?_
  rotate_left
  · intro w'
    go_simp
    with_reducible rfl
  rotate_left
  · simp only [Act.put, List.setIfInBounds_toArray, List.set_cons_zero, List.set_cons_succ, i64_w, i32_w]
    rfl
  refine pure_ (i := 7) (N := some 8) (v := ?_) (a' := ?_) #[true, true, true, true, true, true, true, true, false] rfl rfl (by kernel_rfl) (fun _ _ _ h => h) (Or.inl ⟨by rfl, ?_⟩) ?_ ?_
  rotate_left
  · intro w'
    go_simp
    with_reducible rfl
  rotate_left
  · simp only [Act.put, List.setIfInBounds_toArray, List.set_cons_zero, List.set_cons_succ, i64_w, i32_w]
    rfl
  refine last_ (i := 8) (N := none) #[true, true, true, true, true, true, true, true, true] rfl rfl (by kernel_rfl) (by decide) (fun K hK => ?_)
  refine skip_ (w1 := ?_) (by rfl) rfl ?_ ?_
  rotate_left
  · go_simp
    rfl
  refine hK.out _ _ ?_
  clear hK K
  refine done_ (by kernel_rfl) ?_
  go_wp2_with fail
  go_end0
  have := HH.out.synced HI.out (by rw [HQ.out] : (w.setCell ⟨q, 1, none⟩ (.int .i64 (m.bytes.length : Int))).drew = (w.setCell ⟨m.q, 1, none⟩ (.int .i64 (m.bytes.length : Int))).drew)
  exact ⟨rfl, ⟨_, _, _, this.1⟩, this.2⟩
theorem fun_sync : Fun 45 := ⟨_, Try.func45, rfl, rfl⟩
theorem syncF_is {w : World} {ok : Nat → Prop} {p mb clock : Nat} {s : DS} {ms : List FM} {m : FM} (h : DkMs w ok p s mb clock ms) {i : Nat} (hi : ms[i]? = some m) : syncF s.fs m.name = s.fs.set i (m.name, m.bytes, m.bytes.length) := by
  unfold syncF
  rw [h.look_yes hi]
  exact h.put_yes hi _
set_option maxRecDepth 100000 in
set_option maxHeartbeats 400000 in
theorem sync_no (w : World) (ok : Nat → Prop) (p : Nat) (s : DS) (nm : T) (h : DkAt w ok p s) (hs : Shorts [nm]) (hr : refuse s true [nm] ≠ 0) :
    Calls Try.prog 26 #[.pointer (some ⟨p, 0, none⟩), .string (bs nm)] w fun e w' => e = .returned (.int .i64 (refuse s true [nm])) ∧ Below w.heap.size w w' := by
  have HR := Aside0.mk (fun w' A c (hb : Below w.heap.size w w') (hC : text.C w' A 1 [nm]) => refused_calls w' ok p 1 c s true A [nm] (h.below hb) hC hs (by simp))
  have hb0 : (refuse s true [nm] == 0) = false := beq_eq_false_iff_ne.2 hr
  have hne : (refuse s true [nm] != 0) = true := bne_iff_ne.2 hr
  generalize refuse s true [nm] = r at *
  clear h hs hr
  go_enter Try.func26, Try.ntmps26
  go_wp2_with (first | ((with_reducible refine gate_dst (N := 9) rfl ?_); refine row_event2 ?hg (N := 9) ?hd (cs := #[.string (bs nm)]) (t := 9) (n := 1) (c := 1) ?hr ?_; (case hd => rfl); (case hg => rfl); (case hr => first | (go_simp; done) | (go_simp; rfl)); intro g1 hg w1 hbox hb; have GE1 := Aside0.mk (Nat.le_of_eq hg.symm); have BK1 := Aside0.mk hbox; have HX1 := Aside0.mk hb; clear hg hbox hb) | fail)
  refine (HR.out w1 _ _ HX1.out (text_row1 BK1.out)).mono ?_
  rintro e w2 ⟨rfl, hb⟩
  have HB := Aside0.mk (below_then HX1.out HX1.out.size hb)
  clear hb
  go_wp2_with fail
  go_ret
  exact ⟨rfl, HB.out⟩
set_option maxRecDepth 100000 in
set_option maxHeartbeats 400000 in
theorem sync_yes (w : World) (ok : Nat → Prop) (p : Nat) (s : DS) (nm : T) (h : DkAt w ok p s) (hs : Shorts [nm]) (ho : ops62 s) (hr : refuse s true [nm] = 0) :
    Calls Try.prog 26 #[.pointer (some ⟨p, 0, none⟩), .string (bs nm)] w fun e w' => e = .returned (.int .i64 (doneS s fun s => { s with fs := syncF s.fs nm }).2) ∧ DkAt w' ok p (doneS s fun s => { s with fs := syncF s.fs nm }).1 ∧ Only ok w w' := by
  obtain ⟨v, hl⟩ := refuse_there hr
  have HR := Aside0.mk (fun w' A c (hb : Below w.heap.size w w') (hC : text.C w' A 1 [nm]) => refused_calls w' ok p 1 c s true A [nm] (h.below hb) hC hs (by simp))
  rw [hr] at HR
  obtain ⟨mb, cl, ms, h⟩ := h
  obtain ⟨i, m, hi, rfl, rfl⟩ := h.find_of hl
  have HH := Aside0.mk h
  have HI := Aside0.mk hi
  have HOp := Aside0.mk ho
  generalize hS : (doneS s fun s => { s with fs := syncF s.fs m.name }) = S
  have HS := Aside0.mk hS
  clear h hs hr hl hi ho hS
  generalize hnm : m.name = nm at *
  have HNm := Aside0.mk hnm
  clear hnm
  go_enter Try.func26, Try.ntmps26
  go_wp2_with (first | ((with_reducible refine gate_dst (N := 9) rfl ?_); refine row_event2 ?hg (N := 9) ?hd (cs := #[.string (bs nm)]) (t := 9) (n := 1) (c := 1) ?hr ?_; (case hd => rfl); (case hg => rfl); (case hr => first | (go_simp; done) | (go_simp; rfl)); intro g1 hg w1 hbox hb; have GE1 := Aside0.mk (Nat.le_of_eq hg.symm); have BK1 := Aside0.mk hbox; have HX1 := Aside0.mk hb; clear hg hbox hb) | fail)
  refine (HR.out w1 _ _ HX1.out (text_row1 BK1.out)).mono ?_
  rintro e w2 ⟨rfl, hb⟩
  have HB := Aside0.mk (below_then HX1.out HX1.out.size hb)
  clear hb
  have h2 := HH.out.below HB.out
  have H2 := Aside0.mk h2
  obtain ⟨⟨c0, c1, c2, c3, c4⟩, f1, f2, f3, f4⟩ := h2.cells
  have hlk := h2.run_yes HI.out
  rw [HNm.out] at hlk
  clear h2 c1 c2 c3 c4 f1 f2 f3 f4
  generalize hq : m.q = q at hlk
  have HQ := Aside0.mk hq
  clear hq
  go_wp2_with (first
    | (((with_reducible refine gate_dst (N := 6) rfl ?_); refine box_event ?hg (N := 6) ?hd (cs := #[.pointer none]) (t := 66) ?hr ?_; (case hd => rfl); (case hg => rfl); (case hr => first | (go_simp; done) | (go_simp; rfl)); intro g3 hg w3 hbox hb; have GE3 := Aside0.mk (Nat.le_of_eq hg.symm); have BK3 := Aside0.mk hbox; have HX3 := Aside0.mk hb; clear hg hbox hb); (have hg3_0 : w3.cell? ⟨g3, 0, none⟩ = some (.pointer none) := (blk_cell BK3.out 0).trans rfl; have hfg3_0 := blk_frozen BK3.out 0))
    | fail)
  have hb4 : Below w2.heap.size w2 (w3.setCell ⟨g3, 0, none⟩ (.pointer (some ⟨q, 0, none⟩))) := HX3.out.setCell (p := ⟨g3, 0, none⟩) GE3.out _
  have H4 := Aside0.mk (H2.out.below hb4)
  have HB4 := Aside0.mk (below_then HB.out HB.out.size hb4)
  have BK4 := Aside0.mk (show (w3.setCell ⟨g3, 0, none⟩ (.pointer (some ⟨q, 0, none⟩))).heap[g3]? = some (.cells #[.pointer (some ⟨q, 0, none⟩)] 66 (0, 0)) from blk_set BK3.out 0 _)
  clear hb4 c0 hlk hg3_0 hfg3_0
  generalize w3.setCell ⟨g3, 0, none⟩ (.pointer (some ⟨q, 0, none⟩)) = w4 at *
  have HD := Aside0.mk (done_calls w4 ok p s 45 #[.pointer (some ⟨g3, 0, none⟩)] (fun s => { s with fs := syncF s.fs nm }) ⟨mb, cl, ms, H4.out⟩ HOp.out fun_sync (fun w5 h1 h2 => by
    have h5 := h1 _ _ _ H4.out
    have hgp : g3 ≠ p := fun e => by
      have := H4.out.blk
      rw [← e, BK4.out] at this
      injection this with this
      injection this with _ this
      exact absurd this (by decide)
    have hg5 : w5.heap[g3]? = some (.cells #[.pointer (some ⟨m.q, 0, none⟩)] 66 (0, 0)) := by rw [HQ.out]; exact (h2.block g3 (blk_lt BK4.out) hgp).trans BK4.out
    refine (sync1_calls w5 ok p mb cl g3 i _ ms m h5 HI.out hg5).mono fun e w6 hh => ⟨hh.1, ?_, hh.2.2⟩
    have e6 := syncF_is h5 HI.out
    rw [HNm.out] at e6
    show DkAt w6 ok p { s with ops := s.ops + 1, fs := syncF s.fs nm }
    have e7 : syncF s.fs nm = s.fs.set i (m.name, m.bytes, m.bytes.length) := by rw [HNm.out]; exact e6
    rw [e7]
    exact hh.2.1))
  refine HD.out.mono ?_
  rintro e w5 ⟨rfl, h5, ho5⟩
  rw [HS.out] at h5 ⊢
  have H5 := Aside0.mk h5
  have HO5 := Aside0.mk ((Only.of_below (ok := ok) HB4.out).trans ho5 (fun _ hk => .inl hk))
  clear h5 ho5
  go_wp2_with fail
  go_ret
  exact ⟨rfl, H5.out, HO5.out⟩
theorem sync_calls (w : World) (ok : Nat → Prop) (p : Nat) (s : DS) (nm : T) (h : DkAt w ok p s) (hs : Shorts [nm]) (ho : ops62 s) :
    Calls Try.prog 26 #[.pointer (some ⟨p, 0, none⟩), .string (bs nm)] w fun e w' => e = .returned (.int .i64 (syncS s nm).2) ∧ DkAt w' ok p (syncS s nm).1 ∧ Only ok w w' := by
  unfold syncS
  by_cases hr : refuse s true [nm] = 0
  · rw [if_neg (fun hh => hh hr)]
    exact sync_yes w ok p s nm h hs ho hr
  · rw [if_pos hr]
    exact (sync_no w ok p s nm h hs hr).mono fun e w' hh => ⟨hh.1, h.below hh.2, Only.of_below hh.2⟩
end Go.Proofs.Ytabomfmjepmkjaa.Dk
end

section
namespace Go.Proofs
open Go.Shelf
def Try.lays190_ren : Go.Shelf.Ren := ⟨fun | 190 => 58 | 125 => 70 | 258 => 69 | 128 => 80 | 129 => 81 | 302 => 71 | 303 => 72 | 304 => 73 | 305 => 74 | 306 => 75 | 307 => 76 | 308 => 77 | 309 => 78 | 310 => 79 | 333 => 82 | 329 => 83 | 330 => 84 | 334 => 85 | 335 => 86 | 336 => 87 | 344 => 88 | n => n, fun | 31 => 36 | 9 => 9 | 3 => 3 | 46 => 88 | 0 => 0 | 51 => 98 | 53 => 100 | 4 => 4 | 183 => 91 | 182 => 90 | 131 => 95 | 5 => 5 | 218 => 101 | 222 => 105 | 228 => 107 | 229 => 108 | n => n, fun | n => n⟩
theorem Try.lays190 : Go.Proofs.Lays.n190 Try.prog Try.lays190_ren := {
  mixed := by kernel_rfl
  f125 := Try.func70.trans (congrArg some (by kernel_rfl))
  f128 := Try.func80.trans (congrArg some (by kernel_rfl))
  f129 := Try.func81.trans (congrArg some (by kernel_rfl))
  f190 := Try.func58.trans (congrArg some (by kernel_rfl))
  f258 := Try.func69.trans (congrArg some (by kernel_rfl))
  f302 := Try.func71.trans (congrArg some (by kernel_rfl))
  f303 := Try.func72.trans (congrArg some (by kernel_rfl))
  f304 := Try.func73.trans (congrArg some (by kernel_rfl))
  f305 := Try.func74.trans (congrArg some (by kernel_rfl))
  f306 := Try.func75.trans (congrArg some (by kernel_rfl))
  f307 := Try.func76.trans (congrArg some (by kernel_rfl))
  f308 := Try.func77.trans (congrArg some (by kernel_rfl))
  f309 := Try.func78.trans (congrArg some (by kernel_rfl))
  f310 := Try.func79.trans (congrArg some (by kernel_rfl))
  f329 := Try.func83.trans (congrArg some (by kernel_rfl))
  f330 := Try.func84.trans (congrArg some (by kernel_rfl))
  f333 := Try.func82.trans (congrArg some (by kernel_rfl))
  f334 := Try.func85.trans (congrArg some (by kernel_rfl))
  f335 := Try.func86.trans (congrArg some (by kernel_rfl))
  f336 := Try.func87.trans (congrArg some (by kernel_rfl))
  f344 := Try.func88.trans (congrArg some (by kernel_rfl))
  t0 := Try.underlying0
  a0 := Try.isAgg0
  z0 := Try.sizeOf0
  v0 := Try.zeroValue0
  t3 := Try.underlying3
  a3 := Try.isAgg3
  z3 := Try.sizeOf3
  v3 := Try.zeroValue3
  t4 := Try.underlying4
  a4 := Try.isAgg4
  z4 := Try.sizeOf4
  v4 := Try.zeroValue4
  t5 := Try.underlying5
  a5 := Try.isAgg5
  z5 := Try.sizeOf5
  v5 := Try.zeroValue5
  t9 := Try.underlying9
  a9 := Try.isAgg9
  z9 := Try.sizeOf9
  v9 := Try.zeroValue9
  t31 := Try.underlying36
  a31 := Try.isAgg36
  z31 := Try.sizeOf36
  v31 := Try.zeroValue36
  t46 := Try.underlying88
  a46 := Try.isAgg88
  z46 := Try.sizeOf88
  v46 := Try.zeroValue88
  t51 := Try.underlying98
  a51 := Try.isAgg98
  z51 := Try.sizeOf98
  v51 := Try.zeroValue98
  t53 := Try.underlying100
  a53 := Try.isAgg100
  z53 := Try.sizeOf100
  v53 := Try.zeroValue100
  t131 := Try.underlying95
  a131 := Try.isAgg95
  z131 := Try.sizeOf95
  v131 := Try.zeroValue95
  t182 := Try.underlying90
  a182 := Try.isAgg90
  z182 := Try.sizeOf90
  v182 := Try.zeroValue90
  t183 := Try.underlying91
  a183 := Try.isAgg91
  z183 := Try.sizeOf91
  v183 := Try.zeroValue91
  t218 := Try.underlying101
  a218 := Try.isAgg101
  z218 := Try.sizeOf101
  v218 := Try.zeroValue101
  t222 := Try.underlying105
  a222 := Try.isAgg105
  z222 := Try.sizeOf105
  v222 := Try.zeroValue105
  t228 := Try.underlying107
  a228 := Try.isAgg107
  z228 := Try.sizeOf107
  v228 := Try.zeroValue107
  t229 := Try.underlying108
  a229 := Try.isAgg108
  z229 := Try.sizeOf108
  v229 := Try.zeroValue108 }
open Go.Sort Go.RowKit in
theorem Try.slices_Sort_string (blk off cap : Nat) (ss : List (List UInt8)) (w : World) (hH : Holds encStr w blk off ss.toArray) (hblk : blk < w.heap.size) (hsz : ss.length < 4611686018427387904) :
    Calls Try.prog 58 #[.slice (some ⟨blk, off, none⟩) ss.length cap] w fun e w' =>
      e = .returned (.tuple #[]) ∧ ∃ n os, w' = grow (putRow encStr (Sort.ahead w n) blk off (ss.mergeSort fun x y => decide (x ≤ y)).toArray) os := Any.slices_Sort_string Try.lays190 blk off cap ss w hH hblk hsz
def Try.lays206_ren : Go.Shelf.Ren := ⟨fun | 206 => 61 | n => n, fun | 9 => 9 | 4 => 4 | 3 => 3 | n => n, fun | n => n⟩
theorem Try.lays206 : Go.Proofs.Lays.n206 Try.prog Try.lays206_ren := {
  mixed := by kernel_rfl
  f206 := Try.func61.trans (congrArg some (by kernel_rfl))
  t3 := Try.underlying3
  a3 := Try.isAgg3
  z3 := Try.sizeOf3
  v3 := Try.zeroValue3
  t4 := Try.underlying4
  a4 := Try.isAgg4
  z4 := Try.sizeOf4
  v4 := Try.zeroValue4
  t9 := Try.underlying9
  a9 := Try.isAgg9
  z9 := Try.sizeOf9
  v9 := Try.zeroValue9 }
open Go.RowKit Go.Lib in
theorem Try.stringslite_HasPrefix (s p : ByteArray) (w : World) :
    Calls Try.prog 61 #[.string s, .string p] w fun e w' => e = .returned (.bool (Lib.hasPrefix s.data.toList p.data.toList)) ∧ w' = w := Any.stringslite_HasPrefix Try.lays206 s p w
def Try.lays99_ren : Go.Shelf.Ren := ⟨fun | 99 => 43 | 206 => 61 | n => n, fun | 9 => 9 | 4 => 4 | 3 => 3 | n => n, fun | n => n⟩
theorem Try.lays99 : Go.Proofs.Lays.n99 Try.prog Try.lays99_ren := {
  mixed := by kernel_rfl
  f99 := Try.func43.trans (congrArg some (by kernel_rfl))
  f206 := Try.func61.trans (congrArg some (by kernel_rfl))
  t3 := Try.underlying3
  a3 := Try.isAgg3
  z3 := Try.sizeOf3
  v3 := Try.zeroValue3
  t4 := Try.underlying4
  a4 := Try.isAgg4
  z4 := Try.sizeOf4
  v4 := Try.zeroValue4
  t9 := Try.underlying9
  a9 := Try.isAgg9
  z9 := Try.sizeOf9
  v9 := Try.zeroValue9 }
open Go.RowKit Go.Lib in
theorem Try.strings_HasPrefix (s p : ByteArray) (w : World) :
    Calls Try.prog 43 #[.string s, .string p] w fun e w' => e = .returned (.bool (Lib.hasPrefix s.data.toList p.data.toList)) ∧ w' = w := Any.strings_HasPrefix Try.lays99 s p w
open Go.RowKit Go.Sort in
theorem Try.slices_Sort_string_none (p : Option Addr) (cap : Nat) (w : World) :
    Calls Try.prog 58 #[.slice p 0 cap] w fun e w' => e = .returned (.tuple #[]) ∧ w' = w := Any.slices_Sort_string_none Try.lays190 p cap w
end Go.Proofs
end

section
namespace Go.Proofs
open Go.Shelf
def Try.keysA_ren : Go.Shelf.Ren := ⟨fun | 7 => 40 | 10 => 59 | n => n, fun | 23 => 62 | 26 => 9 | 3 => 66 | 28 => 74 | 0 => 0 | 27 => 73 | 33 => 77 | 4 => 4 | n => n, fun | n => n⟩
theorem Try.keysA : Go.Proofs.SlLaysZ.n7 Try.prog Try.keysA_ren := {
  mixed := by kernel_rfl
  f7 := ⟨Try.f40.name, by decide, Try.func40.trans (congrArg some (by kernel_rfl))⟩
  f10 := ⟨Try.f59.name, by decide, Try.func59.trans (congrArg some (by kernel_rfl))⟩
  t0 := Try.underlying0
  a0 := Try.isAgg0
  z0 := Try.sizeOf0
  v0 := Try.zeroValue0
  t4 := Try.underlying4
  a4 := Try.isAgg4
  z4 := Try.sizeOf4
  v4 := Try.zeroValue4
  t23 := Try.underlying62
  a23 := Try.isAgg62
  z23 := Try.sizeOf62
  v23 := Try.zeroValue62
  t26 := Try.underlying9
  a26 := Try.isAgg9
  z26 := Try.sizeOf9
  v26 := Try.zeroValue9
  t27 := Try.underlying73
  a27 := Try.isAgg73
  z27 := Try.sizeOf73
  v27 := Try.zeroValue73
  t28 := Try.underlying74
  a28 := Try.isAgg74
  z28 := Try.sizeOf74
  v28 := Try.zeroValue74
  t33 := Try.underlying77
  a33 := Try.isAgg77
  z33 := Try.sizeOf77
  v33 := Try.zeroValue77 }
def Try.sortedA_ren : Go.Shelf.Ren := ⟨fun | 6 => 39 | 8 => 57 | 9 => 58 | 11 => 68 | 13 => 70 | 12 => 69 | 23 => 80 | 24 => 81 | 14 => 71 | 15 => 72 | 16 => 73 | 17 => 74 | 18 => 75 | 19 => 76 | 20 => 77 | 21 => 78 | 22 => 79 | 25 => 82 | 26 => 83 | 27 => 84 | 28 => 85 | 29 => 86 | 30 => 87 | 31 => 88 | n => n, fun | 26 => 9 | 28 => 74 | 24 => 36 | 0 => 0 | 3 => 3 | 37 => 88 | 48 => 98 | 50 => 100 | 4 => 4 | 40 => 91 | 39 => 90 | 45 => 95 | 5 => 5 | 9 => 9 | 51 => 101 | 55 => 105 | 57 => 107 | 58 => 108 | 33 => 77 | n => n, fun | n => n⟩
theorem Try.sortedA : Go.Proofs.SlLaysZ.n6 Try.prog Try.sortedA_ren := {
  mixed := by kernel_rfl
  f6 := ⟨Try.f39.name, by decide, Try.func39.trans (congrArg some (by kernel_rfl))⟩
  f8 := ⟨Try.f57.name, by decide, Try.func57.trans (congrArg some (by kernel_rfl))⟩
  f11 := ⟨Try.f68.name, by decide, Try.func68.trans (congrArg some (by kernel_rfl))⟩
  t0 := Try.underlying0
  a0 := Try.isAgg0
  z0 := Try.sizeOf0
  v0 := Try.zeroValue0
  t24 := Try.underlying36
  a24 := Try.isAgg36
  z24 := Try.sizeOf36
  v24 := Try.zeroValue36
  t26 := Try.underlying9
  a26 := Try.isAgg9
  z26 := Try.sizeOf9
  v26 := Try.zeroValue9
  t28 := Try.underlying74
  a28 := Try.isAgg74
  z28 := Try.sizeOf74
  v28 := Try.zeroValue74
  i26 := by kernel_rfl }
end Go.Proofs
end

section
namespace Go.Proofs.Ytabomfmjepmkjaa.Dk
set_option linter.unusedVariables false
set_option linter.unusedSimpArgs false
open Go.RowKit Go.Proofs.YtabomfmjepmkjaaW.PrintWords Go.Proofs.YtabomfmjepmkjaaW.PrintLast Go.Proofs.YtabomfmjepmkjaaW.PrintMore Go.Proofs.Ytabomfmjepmkjaa.Lib Go.Proofs.Ytabomfmjepmkjaa.Mem Go.Proofs.Ytabomfmjepmkjaa.Txt
open Go.MapKept Go.ChangeMaps Go.Maps Go.Sort Go.Shelf
open Go.WideElems (Fit rd rg pl rd_val rd_mk rg_of)
open Go.WideShapes Go.ChangeShapes
abbrev R0 : Value → Option (DataW Unit × List MemPlace) := fun _ => some (.nil, [])
theorem rd_ent {m : FM} (h : m.name.length ≤ maxLen) : rd Try.prog 9 R0 (ent m) = some (.string m.name, .nil) :=
  WideElems.rd_mk (P := Try.prog) (k := 9) (R := R0) (key := .string (bs m.name)) (val := .pointer (some ⟨m.q, 0, none⟩)) (kl := .string m.name) (yv := (.nil, [])) (born := m.born) (WideMaps.keyOf_string_mk (s := bs m.name) Try.underlying9 h) rfl
theorem owns_disk {w : World} {ok : Nat → Prop} {p mb cl : Nat} {s : DS} {ms : List FM} (h : DkMs w ok p s mb cl ms) (hl : ms.length ≤ 1000000) (hn : ∀ m ∈ ms, m.name.length ≤ maxLen) :
    w.ownsMap Try.prog 9 R0 mb ms.length (.map (((ms.map ent).toArray.toList.map (rg Try.prog 9 R0)).foldr DataW.insert [])) := by
  have hm : maxLen = 9223372036854775807 := rfl
  refine ⟨_, cl, h.mblk, ⟨by simp; omega, ⟨fun x hx => ?_, ?_, ?_⟩, fun x hx => ?_⟩, by simp, rfl⟩
  · rw [List.toList_toArray] at hx
    obtain ⟨m, hm, rfl⟩ := List.mem_map.1 hx
    exact h.born m hm
  · rw [List.toList_toArray, List.map_map]
    exact List.pairwise_map.2 (h.apart.imp (fun {a b} h => h.2.1))
  · rw [List.toList_toArray, List.map_map]
    exact List.pairwise_map.2 (h.apart.imp (fun {a b} h e => h.1 (bs_inj (by injection e))))
  · rw [List.toList_toArray] at hx
    obtain ⟨m, hm, rfl⟩ := List.mem_map.1 hx
    exact ⟨_, rd_ent (hn m hm)⟩
set_option maxRecDepth 100000 in
theorem keys_disk {ms : List FM} (hn : ∀ m ∈ ms, m.name.length ≤ maxLen) :
    (strKeys (.map (((ms.map ent).toArray.toList.map (rg Try.prog 9 R0)).foldr DataW.insert []))).Perm (ms.map (·.name)) ∧ Maps.size (DataW.map (((ms.map ent).toArray.toList.map (rg Try.prog 9 R0)).foldr DataW.insert [])) = ms.length := by
  have e : (ms.map ent).toArray.toList.map (rg Try.prog 9 R0) = ms.map fun m => (Lit.string m.name, (DataW.nil : DataW Unit)) := by
    rw [List.toList_toArray, List.map_map]
    refine List.map_congr_left fun m hm => ?_
    rw [Function.comp_apply]
    exact WideElems.rg_of (rd_ent (hn m hm))
  rw [e]
  have hp := sorted_perm (ms.map fun m => (Lit.string m.name, (DataW.nil : DataW Unit)))
  constructor
  · have := hp.map (fun q => strOf q.1)
    rw [List.map_map] at this
    exact this
  · have := hp.length_eq
    rw [List.length_map] at this
    exact this
theorem sorts_in (m : Nat) : AnyZ.SortsIn Try.prog Try.sortedA_ren Fence.wide m :=
  ⟨fun blk off cap ss W hH hblk hsz => callsIn_wide.2 (Try.slices_Sort_string blk off cap ss W hH hblk hsz), fun p cap W => callsIn_wide.2 (Try.slices_Sort_string_none p cap W)⟩
theorem keys_call (mb : Option Nat) (W : World) : Calls Try.prog 40 #[.map mb] W fun e w' => e = .returned (.func (.func 59) #[] #[.pointer (some ⟨W.heap.size, 0, none⟩)]) ∧ w' = W.alloc (.cells #[.map mb] 62) :=
  (callsIn_wide (n := 5)).1 (AnyZ.keys_in Try.keysA Fence.wide 5 trivial rfl mb W)
theorem sorted_call {w w0 : World} {ok : Nat → Prop} {p mb cl g : Nat} {s : DS} {ms : List FM} (h : DkMs w ok p s mb cl ms) (hl : ms.length ≤ 1000000) (hn : ∀ m ∈ ms, m.name.length ≤ maxLen) (hg : w.heap[g]? = some (.cells #[.map (some mb)] 62 (0, 0))) :
    Calls Try.prog 39 #[.func (.func 59) #[] #[.pointer (some ⟨g, 0, none⟩)]] w fun e w' => ∃ v, e = .returned v ∧ text.R 9 w' w.heap.size (fun _ => True) v (sortT (ms.map (·.name))) ∧ Below w.heap.size w w' := by
  have hk := keys_disk hn
  have hseq : SeqGives Fence.wide 2 Try.prog 59 #[.pointer (some ⟨g, 0, none⟩)] encStr (fun ss => ss.Perm (strKeys (.map (((ms.map ent).toArray.toList.map (rg Try.prog 9 R0)).foldr DataW.insert [])))) (Maps.size (DataW.map (((ms.map ent).toArray.toList.map (rg Try.prog 9 R0)).foldr DataW.insert []))) w :=
    AnyZ.keys_gives (ρ := Try.keysA_ren) { Try.keysA with } Fence.wide _ trivial rfl (by omega) g mb ms.length _ w (blk_lt hg) ((blk_cell hg 0).trans rfl) (owns_disk h hl hn)
  have cS := AnyZ.sorted_in Try.sortedA Fence.wide 5 trivial trivial trivial trivial rfl (by omega) (sorts_in _) (enters_of Try.func58 (by kernel_rfl) rfl) 59 #[.pointer (some ⟨g, 0, none⟩)] trivial (enters_of Try.func59 (by kernel_rfl) rfl) _ _ (by rw [hk.2]; unfold maxLen; omega) (by rw [hk.2]; omega) _ hseq
  change CallsIn _ _ Try.prog 39 _ _ _ at cS
  refine ((callsIn_wide (n := 5)).1 cS).mono fun e w' hh => ?_
  obtain ⟨v, ss, he, hp, ho, hnil, hb⟩ := hh
  have hms : ss.mergeSort (fun x y => decide (x ≤ y)) = sortT (ms.map (·.name)) := mergeSort_of_perm (hp.trans hk.1)
  have hlen : ss.length = (sortT (ms.map (·.name))).length := by rw [← hms]; simp
  rw [hms, hlen] at ho
  exact ⟨v, he, Kd.R_of_own ho (fun _ _ => trivial), hb⟩
theorem hasPrefix_is (s p : T) : Go.Lib.hasPrefix s p = begins s p := rfl
set_option maxRecDepth 100000 in
set_option maxHeartbeats 400000 in
theorem list1_calls (w : World) (gp : Nat) (t pre : T) (hg : w.heap[gp]? = some (.cells #[.string (bs pre)] 9 (0, 0))) : Calls Try.prog 42 #[.string (bs t), .pointer (some ⟨gp, 0, none⟩)] w fun e w' => e = .returned (.bool (!begins t pre)) ∧ Below w.heap.size w w' := by
  have b0 : w.cell? ⟨gp, 0, none⟩ = some (.string (bs pre)) := (blk_cell hg 0).trans rfl
  have HP := Aside0.mk (Try.strings_HasPrefix (bs t) (bs pre) w)
  rw [bs_data, bs_data, hasPrefix_is] at HP
  generalize begins t pre = b at *
  clear hg
  go_enter Try.func42, Try.ntmps42
  go_wp2_with fail
  refine HP.out.mono ?_
  rintro e w1 ⟨rfl, rfl⟩
  go_wp2_with fail
  go_ret
  exact ⟨rfl, Below.refl _ _⟩
theorem fun_list : Fun 42 := ⟨_, Try.func42, rfl, rfl⟩
set_option maxRecDepth 100000 in
set_option maxHeartbeats 400000 in
theorem del_none (f : FuncId) (cap : Array Value) (w : World) (hf : Fun f) : Calls Try.prog 41 #[.slice none 0 0, .func (.func f) #[] cap] w fun e w' => e = .returned (.slice none 0 0) ∧ Below w.heap.size w w' := by
  have HI := Aside0.mk (idx_texts f cap (fun _ => false) 0 0 none [] w ⟨rfl, by decide, fun h => absurd h (Nat.lt_irrefl _)⟩ hf (fun _ _ t ht => by simp at ht))
  clear hf
  go_enter Try.func41, Try.ntmps41
  go_upto_region 2 with (first | (go_at_call 60; refine HI.out.mono ?_; rintro e w2 ⟨r, rfl, hb, hr⟩; have HB := Aside0.mk hb; have HRr := Aside0.mk hr; clear hb hr HI) | fail)
  have hr : r = -1 := by
    rcases HRr.out with ⟨rfl, _⟩ | ⟨i, _, hi, _⟩
    · rfl
    · exact absurd hi (Nat.not_lt_zero _)
  subst hr
  go_wp2_with fail
  go_ret
  exact ⟨rfl, HB.out⟩
theorem del_begins (v : Value) (xs : List T) (w : World) (base gp : Nat) (pre : T) (hv : text.R 9 w base (fun _ => True) v xs) (hg : w.heap[gp]? = some (.cells #[.string (bs pre)] 9 (0, 0))) (hgb : gp < base) :
    Calls Try.prog 41 #[v, .func (.func 42) #[] #[.pointer (some ⟨gp, 0, none⟩)]] w fun e w' => ∃ v', e = .returned v' ∧ text.R 9 w' base (fun _ => True) v' (xs.filter fun t => begins t pre) ∧ Only (fun k => base ≤ k) w w' := by
  have ho := (Kd.own_of_R hv).2
  rcases ho with ⟨rfl, h0⟩ | ⟨g, cap, cur, rfl, hb, hh, h1, h2, h3, h4⟩
  · have hx : xs = [] := List.eq_nil_of_length_eq_zero h0
    subst hx
    exact (del_none _ _ w fun_list).mono fun e w' hh => ⟨_, hh.1, Kd.R_nil _ _ _ _ _, Only.of_below hh.2⟩
  · refine (del_texts 42 #[.pointer (some ⟨gp, 0, none⟩)] (fun t => !begins t pre) g xs.length cap xs w base _ hv fun_list (fun w' hg' t _ => ?_)).mono fun e w' hh => ?_
    · refine list1_calls w' gp t pre ((hg'.block gp (blk_lt hg) (fun e => ?_)).trans hg)
      have : gp = g := Option.some.inj e
      omega
    · simp only [Bool.not_not] at hh
      refine ⟨_, hh.1, hh.2.1, ?_⟩
      exact ⟨hh.2.2.os, hh.2.2.tape, hh.2.2.output, hh.2.2.size, fun k hk hn => hh.2.2.block k hk (fun e => hn (by have : k = g := Option.some.inj e; omega))⟩
set_option maxRecDepth 100000 in
set_option maxHeartbeats 400000 in
theorem list_off (w : World) (ok : Nat → Prop) (p : Nat) (s : DS) (pv : ByteArray) (h : DkAt w ok p s) (ho : s.off = true) : Calls Try.prog 21 #[.pointer (some ⟨p, 0, none⟩), .string pv] w fun e w' => e = .returned (.slice none 0 0) ∧ Below w.heap.size w w' := by
  obtain ⟨mb, cl, ms, h⟩ := h
  have HH := Aside0.mk h
  clear h
  go_enter Try.func21, Try.ntmps21
  go_upto_region 1 with (first | ((with_reducible refine gate_dst (N := 3) rfl ?_); refine box_event ?hg (N := 3) ?hd (cs := #[.string pv]) (t := 9) ?hr ?_; (case hd => rfl); (case hg => rfl); (case hr => first | (go_simp; done) | (go_simp; rfl)); intro g1 hg w1 hbox hb; have GE1 := Aside0.mk (Nat.le_of_eq hg.symm); have BK1 := Aside0.mk hbox; have HX1 := Aside0.mk hb; clear hg hbox hb) | fail)
  have h1 := HH.out.below HX1.out
  obtain ⟨⟨c0, c1, c2, c3, c4⟩, f1, f2, f3, f4⟩ := h1.cells
  rw [ho] at c1
  clear h1
  go_wp2_with fail
  go_ret
  exact ⟨rfl, HX1.out⟩
set_option maxRecDepth 100000 in
set_option maxHeartbeats 1600000 in
theorem list_on (w : World) (ok : Nat → Prop) (p : Nat) (s : DS) (pre : T) (h : DkAt w ok p s) (ho : s.off = false) (hl : s.fs.length ≤ 1000000) (hn : ∀ x ∈ s.fs, x.1.length ≤ maxLen) :
    Calls Try.prog 21 #[.pointer (some ⟨p, 0, none⟩), .string (bs pre)] w fun e w' => ∃ v, e = .returned v ∧ text.R 9 w' w.heap.size (fun _ => True) v ((sortT (s.fs.map (·.1))).filter fun t => begins t pre) ∧ Below w.heap.size w w' := by
  obtain ⟨mb, cl, ms, h⟩ := h
  have hlm : ms.length ≤ 1000000 := by have := congrArg List.length h.abs; rw [List.length_map] at this; omega
  have hnm : ∀ m ∈ ms, m.name.length ≤ maxLen := fun m hm => hn m.abs (by rw [← h.abs]; exact List.mem_map.2 ⟨m, hm, rfl⟩)
  have hnames : s.fs.map (·.1) = ms.map (·.name) := by rw [← h.abs, List.map_map]; rfl
  rw [hnames]
  have HH := Aside0.mk h
  have HS := Aside0.mk (fun (w' : World) (g : Nat) (h : DkMs w' ok p s mb cl ms) (hg : w'.heap[g]? = some (.cells #[.map (some mb)] 62 (0, 0))) => sorted_call (w0 := w) h hlm hnm hg)
  clear h hl hn hlm hnm hnames
  generalize sortT (ms.map (·.name)) = ts at *
  go_enter Try.func21, Try.ntmps21
  go_upto_region 1 with (first | ((with_reducible refine gate_dst (N := 3) rfl ?_); refine box_event ?hg (N := 3) ?hd (cs := #[.string (bs pre)]) (t := 9) ?hr ?_; (case hd => rfl); (case hg => rfl); (case hr => first | (go_simp; done) | (go_simp; rfl)); intro g1 hg w1 hbox hb; have GE1 := Aside0.mk (Nat.le_of_eq hg.symm); have BK1 := Aside0.mk hbox; have HX1 := Aside0.mk hb; clear hg hbox hb) | fail)
  have h1 := HH.out.below HX1.out
  obtain ⟨⟨c0, c1, c2, c3, c4⟩, f1, f2, f3, f4⟩ := h1.cells
  rw [ho] at c1
  have H1 := Aside0.mk h1
  clear h1 ho c2 c3 c4 f1 f2 f3 f4
  go_wp2_with fail
  refine (keys_call (some mb) w1).mono ?_
  rintro e w2 ⟨rfl, hw2⟩
  have hb2 : Below w1.heap.size w1 w2 := by rw [hw2]; exact Below.alloc (Below.refl _ w1) (Nat.le_refl _) _
  have HB2 := Aside0.mk hb2
  have HG2 := Aside0.mk (show w2.heap[w1.heap.size]? = some (.cells #[.map (some mb)] 62 (0, 0)) by rw [hw2]; exact (heap_alloc w1 _).1)
  clear hw2 hb2 c0 c1
  generalize hb1 : w1.heap.size = b1 at HG2 ⊢
  clear hb1
  go_wp2_with fail
  refine (HS.out w2 b1 (H1.out.below HB2.out) HG2.out).mono ?_
  rintro e w3 ⟨v3, rfl, hr3, hb3⟩
  have HR3 := Aside0.mk hr3
  have HB3 := Aside0.mk hb3
  clear hr3 hb3
  go_wp2_with fail
  refine (del_begins v3 ts w3 w2.heap.size g1 pre HR3.out (blk_below (blk_below BK1.out HB2.out) HB3.out) (Nat.lt_of_lt_of_le (blk_lt BK1.out) HB2.out.size)).mono ?_
  rintro e w4 ⟨v4, rfl, hr4, ho4⟩
  have HR4 := Aside0.mk hr4
  have HO4 := Aside0.mk ho4
  clear hr4 ho4
  go_wp2_with fail
  go_ret
  have hle : w.heap.size ≤ w2.heap.size := Nat.le_trans HX1.out.size HB2.out.size
  exact ⟨v4, rfl, Kd.R_lower HR4.out hle, (below_then (below_then HX1.out HX1.out.size HB2.out) hle HB3.out).trans (HO4.out.below (Nat.le_trans hle HB3.out.size) (fun k hk => Nat.le_trans hle hk))⟩
theorem list_calls (w : World) (ok : Nat → Prop) (p : Nat) (s : DS) (pre : T) (h : DkAt w ok p s) (hl : s.fs.length ≤ 1000000) (hn : ∀ x ∈ s.fs, x.1.length ≤ maxLen) :
    Calls Try.prog 21 #[.pointer (some ⟨p, 0, none⟩), .string (bs pre)] w fun e w' => ∃ v, e = .returned v ∧ text.R 9 w' w.heap.size (fun _ => True) v (listS s pre) ∧ Below w.heap.size w w' := by
  unfold listS
  by_cases ho : s.off = true
  · rw [if_pos ho]
    exact (list_off w ok p s _ h ho).mono fun e w' hh => ⟨_, hh.1, Kd.R_nil _ _ _ _ _, hh.2⟩
  · rw [if_neg ho]
    exact list_on w ok p s pre h (by simpa using ho) hl hn
end Go.Proofs.Ytabomfmjepmkjaa.Dk
end

section
namespace Go.Proofs.Ytabomfmjepmkjaa.Dk
set_option linter.unusedVariables false
set_option linter.unusedSimpArgs false
open Go.RowKit Go.Proofs.YtabomfmjepmkjaaW.PrintWords Go.Proofs.YtabomfmjepmkjaaW.PrintLast Go.Proofs.YtabomfmjepmkjaaW.PrintMore Go.Proofs.Ytabomfmjepmkjaa.Lib Go.Proofs.Ytabomfmjepmkjaa.Mem Go.Proofs.Ytabomfmjepmkjaa.Txt
open Go.MapKept Go.ChangeMaps
theorem bytes_block {w : World} {g : Nat} {xs : List Int} {fr : Nat × Nat} (h : w.heap[g]? = some (.cells (xs.map (Value.int .u8)).toArray 5 fr)) (hl : xs.length ≤ 9223372036854775807) : Kd.C (Kd.int .u8) w (some ⟨g, 0, none⟩) xs.length xs := by
  refine ⟨rfl, hl, fun _ => ⟨_, rfl, fun j x hx => ⟨[.int .u8 x], rfl, rfl, fun i u hu => ?_⟩⟩⟩
  have e1 : (Kd.int .u8).sz = 1 := rfl
  rcases i with _ | i
  · obtain rfl := Option.some.inj hu
    rw [e1, show j * 1 + 0 = j by omega, add_at, Nat.zero_add]
    unfold World.cell?
    simp only [h]
    simp [hx]
  · simp at hu
def tA : T := [97]
def s1 : DS := ⟨false, 1, -1, 0, [(tA, [120, 121], 0)]⟩
def s2 : DS := ⟨false, 2, -1, 0, [(tA, [120, 121], 2)]⟩
def s3 : DS := ⟨false, 3, -1, 0, [(tA, [120, 121, 122], 2)]⟩
def s4 : DS := ⟨true, 3, -1, 0, [(tA, [120, 121], 2)]⟩
def s5 : DS := ⟨false, 3, -1, 0, [(tA, [120, 121], 2)]⟩
theorem step1 : appendS emptyS tA [120, 121] = (s1, 0) := by rfl
theorem step2 : syncS s1 tA = (s2, 0) := by rfl
theorem step3 : appendS s2 tA [122] = (s3, 0) := by rfl
theorem step4 : s3.cut 0 = s4 := by rfl
theorem read3 : refuse s3 true [tA] = 0 ∧ ((look s3.fs tA).getD ([], 0)).1 = [120, 121, 122] := ⟨rfl, rfl⟩
theorem read4 : refuse s4 true [tA] = 122 := rfl
theorem read5 : refuse s5 true [tA] = 0 ∧ ((look s5.fs tA).getD ([], 0)).1 = [120, 121] := ⟨rfl, rfl⟩
theorem shortA : Shorts [tA] := fun t ht => by rw [List.mem_singleton.1 ht]; decide
set_option maxRecDepth 100000 in
set_option maxHeartbeats 1600000 in
theorem awake_calls (w : World) : Calls Try.prog 10 #[] w fun e w' => e = .returned (.bool true) ∧ Below w.heap.size w w' := by
  have kc := fun (w : World) (C : Array Value) (n c : Nat) => Lib.run_convert_bytes_const (P := Try.prog) w 22 5 C n c Try.underlying22 Try.underlying5
  go_enter Try.func10, Try.ntmps10
  go_wp2_with fail
  refine (new_calls w).mono ?_
  rintro e w1 ⟨p, rfl, hd, hb, hp⟩
  have HD1 := Aside0.mk (hd.mono (ok' := fun k => w.heap.size ≤ k) (fun k hk => hk.elim False.elim (fun h => h.1)))
  have HB1 := Aside0.mk hb
  clear hd hb hp
  go_wp2_with fail
  have HX2 := Aside0.mk (Below.alloc (Below.refl w1.heap.size w1) (Nat.le_refl _) (.cells #[.int .u8 120, .int .u8 121] 5 (2, 3)))
  have BK2 := Aside0.mk (heap_alloc w1 (.cells #[.int .u8 120, .int .u8 121] 5 (2, 3))).1
  have HB2 := Aside0.mk (below_then HB1.out HB1.out.size HX2.out)
  generalize w1.alloc (.cells #[.int .u8 120, .int .u8 121] 5 (2, 3)) = w2 at *
  refine (append_calls w2 _ p 2 2 emptyS tA (some ⟨w1.heap.size, 0, none⟩) [120, 121] (HD1.out.below HX2.out) shortA ⟨by decide, by decide⟩ (bytes_block (xs := [120, 121]) BK2.out (by decide)) (by decide)).mono ?_
  rintro e w3 ⟨rfl, hd, ho⟩
  rw [step1] at hd ⊢
  have HD3 := Aside0.mk (hd.mono (ok' := fun k => w.heap.size ≤ k) (fun k hk => hk.elim id (fun h => Nat.le_trans HB2.out.size h.1)))
  have HB3 := Aside0.mk (HB2.out.trans (ho.below HB2.out.size (fun _ h => h)))
  clear hd ho
  simp only
  go_wp2_with fail
  refine (sync_calls w3 _ p s1 tA HD3.out shortA ⟨by decide, by decide⟩).mono ?_
  rintro e w4 ⟨rfl, hd, ho⟩
  rw [step2] at hd ⊢
  have HD4 := Aside0.mk hd
  have HB4 := Aside0.mk (HB3.out.trans (ho.below HB3.out.size (fun _ h => h)))
  clear hd ho
  simp only
  go_wp2_with fail
  have HX5 := Aside0.mk (Below.alloc (Below.refl w4.heap.size w4) (Nat.le_refl _) (.cells #[.int .u8 122] 5 (1, 2)))
  have BK5 := Aside0.mk (heap_alloc w4 (.cells #[.int .u8 122] 5 (1, 2))).1
  have HB5 := Aside0.mk (below_then HB4.out HB4.out.size HX5.out)
  generalize w4.alloc (.cells #[.int .u8 122] 5 (1, 2)) = w5 at *
  refine (append_calls w5 _ p 1 1 s2 tA (some ⟨w4.heap.size, 0, none⟩) [122] (HD4.out.below HX5.out) shortA ⟨by decide, by decide⟩ (bytes_block (xs := [122]) BK5.out (by decide)) (by decide)).mono ?_
  rintro e w6 ⟨rfl, hd, ho⟩
  rw [step3] at hd ⊢
  have HD6 := Aside0.mk ((hd.bound).mono (ok' := fun k => w.heap.size ≤ k ∧ k < w6.heap.size) (fun k hk => ⟨hk.1.elim id (fun h => Nat.le_trans HB5.out.size h.1), hk.2⟩))
  have HB6 := Aside0.mk (HB5.out.trans (ho.below HB5.out.size (fun _ h => h)))
  clear hd ho
  simp only
  go_wp2_with fail
  refine (read_yes w6 _ p s3 tA HD6.out shortA read3.1 (by rw [read3.2]; decide)).mono ?_
  rintro e w7 ⟨v7, rfl, hr, hb⟩
  rw [read3.2] at hr
  obtain ⟨A7, c7, rfl, hc7, hC7⟩ := Kd.R_reads hr
  have HR7 := Aside0.mk hr
  have HD7 := Aside0.mk (HD6.out.below hb)
  have HB7 := Aside0.mk (below_then HB6.out HB6.out.size hb)
  clear hr hb hC7 hc7
  go_wp2_with fail
  refine (Cut_calls w7 _ p s3 0 HD7.out rfl).mono ?_
  rintro e w8 ⟨rfl, hd, ho⟩
  rw [step4] at hd
  have HD8 := Aside0.mk hd
  have HB8 := Aside0.mk (HB7.out.trans (ho.below HB7.out.size (fun _ h => h.1)))
  have HR8 := Aside0.mk (R_only HR7.out ho (fun k _ h1 _ h2 => by omega))
  clear hd ho
  go_wp2_with fail
  have hr4 := read_no w8 _ p s4 tA HD8.out shortA (by rw [read4]; decide)
  rw [read4] at hr4
  refine hr4.mono ?_
  rintro e w9 ⟨rfl, hb⟩
  have HD9 := Aside0.mk (HD8.out.below hb)
  have HB9 := Aside0.mk (below_then HB8.out HB8.out.size hb)
  have HR9 := Aside0.mk (Kd.R_below HR8.out hb)
  clear hb hr4
  go_wp2_with fail
  refine (on_calls w9 _ p s4 HD9.out).mono ?_
  rintro e w10 ⟨rfl, hd, ho⟩
  have HD10 := Aside0.mk (show DkAt w10 (fun k => w.heap.size ≤ k ∧ k < w6.heap.size) p s5 from hd)
  have hok : w.heap.size ≤ p ∧ p < w6.heap.size := by obtain ⟨mb, cl, ms, h⟩ := HD9.out; exact h.okp
  have HB10 := Aside0.mk (HB9.out.trans (ho.below HB9.out.size (fun k h => by rw [show k = p from h]; exact hok.1)))
  have HR10 := Aside0.mk (R_only HR9.out ho (fun k _ h1 _ h2 => by have e : k = p := h2; omega))
  clear hd ho hok
  go_wp2_with fail
  refine (read_yes w10 _ p s5 tA HD10.out shortA read5.1 (by rw [read5.2]; decide)).mono ?_
  rintro e w11 ⟨v11, rfl, hr, hb⟩
  rw [read5.2] at hr
  obtain ⟨A11, c11, rfl, hc11, hC11⟩ := Kd.R_reads hr
  have HD11 := Aside0.mk (HD10.out.below hb)
  have HB11 := Aside0.mk (below_then HB10.out HB10.out.size hb)
  have hR7 := Kd.R_below HR10.out hb
  have hs7 := Kd.C_string Try.underlying22 Try.underlying5 Try.underlying9 (c := c7) (show Kd.C (Kd.int .u8) w11 A7 3 [120, 121, 122] from (Kd.R_reads' hR7).2.2)
  have hs11 := Kd.C_string Try.underlying22 Try.underlying5 Try.underlying9 (c := c11) (show Kd.C (Kd.int .u8) w11 A11 2 [120, 121] from hC11)
  have e7 : strOfNums [120, 121, 122] = ⟨#[120, 121, 122]⟩ := by decide +kernel
  have e11 : strOfNums [120, 121] = ⟨#[120, 121]⟩ := by decide +kernel
  rw [e7] at hs7
  rw [e11] at hs11
  clear hr hb hC11 hc11 hR7 e7 e11
  go_wp2_with fail
  refine (ops_calls w11 _ p s5 HD11.out).mono ?_
  rintro e w12 ⟨rfl, hb⟩
  have HB12 := Aside0.mk (below_then HB11.out HB11.out.size hb)
  clear hb
  have e5 : s5.ops = 3 := rfl
  rw [e5]
  go_wp2_with fail
  go_ret
  exact ⟨rfl, HB12.out⟩
end Go.Proofs.Ytabomfmjepmkjaa.Dk
end

section
namespace Go.Proofs.Ytabomfmjepmkjaa.Dk
set_option linter.unusedVariables false
set_option linter.unusedSimpArgs false
open Go.RowKit Go.Proofs.YtabomfmjepmkjaaW.PrintWords Go.Proofs.Ytabomfmjepmkjaa.Lib Go.Proofs.Ytabomfmjepmkjaa.Txt
def Nd (fs : Fs) : Prop := fs.Pairwise fun a b => a.1 ≠ b.1
theorem look_cons (x : T × Fv) (fs : Fs) (nm : T) : look (x :: fs) nm = if x.1 = nm then some x.2 else look fs nm := by
  unfold look
  rw [List.find?_cons]
  by_cases h : x.1 = nm
  · rw [if_pos h, show hasName nm x = true from decide_eq_true h]
    rfl
  · rw [if_neg h, show hasName nm x = false from decide_eq_false h]
theorem look_nil (nm : T) : look [] nm = none := rfl
theorem look_mem {fs : Fs} (hn : Nd fs) {x : T × Fv} (hx : x ∈ fs) : look fs x.1 = some x.2 := by
  induction fs with
  | nil => simp at hx
  | cons y fs ih =>
    have h := List.pairwise_cons.1 hn
    rw [look_cons]
    rcases List.mem_cons.1 hx with rfl | hx
    · rw [if_pos rfl]
    · rw [if_neg (h.1 x hx)]
      exact ih h.2 hx
theorem mem_look {fs : Fs} {nm : T} {v : Fv} (h : look fs nm = some v) : (nm, v) ∈ fs := by
  induction fs with
  | nil => rw [look_nil] at h; cases h
  | cons y fs ih =>
    rw [look_cons] at h
    split at h
    · rename_i e
      injection h with h
      rw [← e, ← h]
      exact List.mem_cons_self
    · exact List.mem_cons_of_mem _ (ih h)
theorem idx_cons (x : T × Fv) (fs : Fs) (nm : T) : (x :: fs).findIdx? (hasName nm) = if x.1 = nm then some 0 else (fs.findIdx? (hasName nm)).map (· + 1) := by
  rw [List.findIdx?_cons]
  by_cases h : x.1 = nm
  · rw [if_pos h, show hasName nm x = true from decide_eq_true h, if_pos rfl]
  · rw [if_neg h, show hasName nm x = false from decide_eq_false h]
    rfl
theorem putF_nil (nm : T) (v : Fv) : putF [] nm v = [(nm, v)] := rfl
theorem putF_cons (x : T × Fv) (fs : Fs) (nm : T) (v : Fv) : putF (x :: fs) nm v = if x.1 = nm then (nm, v) :: fs else x :: putF fs nm v := by
  unfold putF
  rw [idx_cons]
  by_cases h : x.1 = nm
  · rw [if_pos h, if_pos h]; rfl
  · rw [if_neg h, if_neg h]
    cases fs.findIdx? (hasName nm) with
    | none => rfl
    | some i => rfl
theorem look_put (fs : Fs) (a : T) (v : Fv) (b : T) : look (putF fs a v) b = if b = a then some v else look fs b := by
  induction fs with
  | nil =>
    rw [putF_nil, look_cons, look_nil]
    by_cases h : b = a
    · rw [if_pos h, if_pos h.symm]
    · rw [if_neg h, if_neg (Ne.symm h)]
  | cons x fs ih =>
    rw [putF_cons]
    by_cases hx : x.1 = a
    · rw [if_pos hx, look_cons, look_cons]
      by_cases h : b = a
      · rw [if_pos h, if_pos h.symm]
      · rw [if_neg h, if_neg (fun e => h e.symm), if_neg (fun e => h (e.symm.trans hx))]
    · rw [if_neg hx, look_cons, look_cons, ih]
      by_cases h : b = a
      · rw [if_pos h, if_pos h, if_neg (fun e => hx (e.trans h))]
      · rw [if_neg h, if_neg h]
theorem mem_put {fs : Fs} {a : T} {v : Fv} {x : T × Fv} (h : x ∈ putF fs a v) : x = (a, v) ∨ x ∈ fs := by
  induction fs with
  | nil => rw [putF_nil] at h; exact .inl (List.mem_singleton.1 h)
  | cons y fs ih =>
    rw [putF_cons] at h
    split at h
    · rcases List.mem_cons.1 h with h | h
      · exact .inl h
      · exact .inr (List.mem_cons_of_mem _ h)
    · rcases List.mem_cons.1 h with h | h
      · exact .inr (by rw [h]; exact List.mem_cons_self)
      · exact (ih h).imp id (List.mem_cons_of_mem _)
theorem nd_put {fs : Fs} (hn : Nd fs) (a : T) (v : Fv) : Nd (putF fs a v) := by
  induction fs with
  | nil => rw [putF_nil]; exact List.pairwise_singleton _ _
  | cons x fs ih =>
    have h := List.pairwise_cons.1 hn
    rw [putF_cons]
    by_cases hx : x.1 = a
    · rw [if_pos hx]
      exact List.pairwise_cons.2 ⟨fun y hy => by have := h.1 y hy; rw [hx] at this; exact this, h.2⟩
    · rw [if_neg hx]
      refine List.pairwise_cons.2 ⟨fun y hy => ?_, ih h.2⟩
      rcases mem_put hy with e | hy
      · rw [e]; exact hx
      · exact h.1 y hy
theorem len_put (fs : Fs) (a : T) (v : Fv) : (putF fs a v).length = if (look fs a).isSome = true then fs.length else fs.length + 1 := by
  induction fs with
  | nil => rfl
  | cons x fs ih =>
    rw [putF_cons, look_cons]
    by_cases hx : x.1 = a
    · rw [if_pos hx, if_pos hx]; rfl
    · rw [if_neg hx, if_neg hx, List.length_cons, List.length_cons, ih]
      split <;> rfl
end Go.Proofs.Ytabomfmjepmkjaa.Dk
end

section
namespace Go.Proofs.Ytabomfmjepmkjaa.Dk
set_option linter.unusedVariables false
set_option linter.unusedSimpArgs false
open Go.RowKit Go.Proofs.Ytabomfmjepmkjaa.Mem Go.Proofs.Ytabomfmjepmkjaa.Txt
structure Good (s : DS) (ys : List T) (i : Nat) : Prop where
  off : s.off = false
  cut : s.cutAt = -1
  ops : 0 ≤ s.ops ∧ s.ops ≤ i
  nd : Nd s.fs
  len : s.fs.length ≤ i
  vals : ∀ x ∈ s.fs, x.2.1 = []
  yn : ys.length ≤ i
  named : ∀ x ∈ s.fs, x.1.length ≤ 64
  mem : ∀ t, (look s.fs t).isSome = true ↔ t ∈ ys
theorem good_0 : Good emptyS [] 0 := ⟨rfl, rfl, ⟨Int.le_refl _, Int.le_refl _⟩, List.Pairwise.nil, Nat.le_refl _, (fun x h => absurd h List.not_mem_nil), Nat.le_refl _, (fun x h => absurd h List.not_mem_nil), (fun t => Iff.intro (fun h => absurd h (by rw [show look emptyS.fs t = none from rfl]; decide)) (fun h => absurd h List.not_mem_nil))⟩
theorem named_len {t : T} (h : named t = true) : t.length ≤ 64 := by
  simp only [named, Bool.and_eq_true, decide_eq_true_eq] at h
  exact h.2.2
theorem good_yes {s : DS} {ys : List T} {i : Nat} {nm : T} (h : Good s ys i) (hn : named nm = true) (hi : i < 60) : (appendS s nm []).2 = 0 ∧ Good (appendS s nm []).1 (ys ++ [nm]) (i + 1) := by
  have hr : refuse s false [nm] = 0 := by simp [refuse, h.off, hn]
  have hne : ¬ s.ops = s.cutAt := by rw [h.cut]; have := h.ops; omega
  have hput : ∀ v : Fv, v.1 = [] → Good { s with ops := s.ops + 1, fs := putF s.fs nm v } (ys ++ [nm]) (i + 1) := fun v hv =>
    ⟨h.off, h.cut, ⟨by have := h.ops; show 0 ≤ s.ops + 1; omega, by have := h.ops; show s.ops + 1 ≤ _; omega⟩, nd_put h.nd _ _,
      by
        have h1 := len_put s.fs nm v
        have h2 := h.len
        show (putF s.fs nm v).length ≤ _
        by_cases hh : (look s.fs nm).isSome = true
        · rw [if_pos hh] at h1; omega
        · rw [if_neg hh] at h1; omega,
      fun x hx => by
        rcases mem_put hx with rfl | hx
        · exact hv
        · exact h.vals x hx,
      by have := h.yn; rw [List.length_append, List.length_singleton]; omega,
      fun x hx => by
        rcases mem_put hx with rfl | hx
        · exact named_len hn
        · exact h.named x hx,
      fun t => by
        show (look (putF s.fs nm v) t).isSome = true ↔ _
        rw [look_put, List.mem_append, List.mem_singleton, ← h.mem t]
        by_cases e : t = nm
        · simp [e]
        · simp [e]⟩
  unfold appendS
  rw [if_neg (fun hh => hh hr)]
  cases hl : look s.fs nm with
  | some v =>
    simp only
    rw [show doneS { s with fs := putF s.fs nm (v.1 ++ [], v.2) } id = ({ s with ops := s.ops + 1, fs := putF s.fs nm (v.1 ++ [], v.2) }, 0) from if_neg hne]
    refine ⟨rfl, ?_⟩
    have := hput (v.1 ++ [], v.2) (by rw [List.append_nil]; exact h.vals _ (mem_look hl))
    exact this
  | none =>
    simp only
    rw [if_neg (by have := h.len; omega)]
    rw [show doneS { s with fs := putF s.fs nm ([], 0) } id = ({ s with ops := s.ops + 1, fs := putF s.fs nm ([], 0) }, 0) from if_neg hne]
    exact ⟨rfl, hput ([], 0) rfl⟩
theorem good_no {s : DS} {ys : List T} {i : Nat} {nm : T} (h : Good s ys i) (hn : named nm = false) : appendS s nm [] = (s, 1) ∧ Good s ys (i + 1) := by
  have hr : refuse s false [nm] = 1 := by simp [refuse, h.off, hn]
  refine ⟨?_, h.off, h.cut, ⟨h.ops.1, by have := h.ops.2; omega⟩, h.nd, by have := h.len; omega, h.vals, by have := h.yn; omega, h.named, h.mem⟩
  unfold appendS
  rw [if_pos (by rw [hr]; decide), hr]
theorem good_fit {s : DS} {ys : List T} {i : Nat} (h : Good s ys i) (nm : T) : ((look s.fs nm).getD ([], 0)).1.length + 0 ≤ 140737488355328 := by
  cases hl : look s.fs nm with
  | none => decide
  | some v => rw [Option.getD_some, h.vals _ (mem_look hl)]; decide
theorem sortT_perm (l : List T) : (sortT l).Perm l := List.mergeSort_perm l _
theorem sortT_sorted (l : List T) : (sortT l).Pairwise (· ≤ ·) := by
  have := List.pairwise_mergeSort (le := fun x y : T => decide (x ≤ y)) (fun a b c h1 h2 => by
    simp only [decide_eq_true_eq] at *
    exact List.le_trans h1 h2) (fun a b => by
    simp only [Bool.or_eq_true, decide_eq_true_eq]
    exact List.le_total a b) l
  exact this.imp (fun h => of_decide_eq_true h)
theorem nd_keys {fs : Fs} (h : Nd fs) : (fs.map (·.1)).Nodup := List.pairwise_map.2 (h.imp (fun h => h))
theorem lists_rises {s : DS} (hn : Nd s.fs) (pre : T) : (listS s pre).Pairwise (· < ·) := by
  unfold listS
  by_cases ho : s.off = true
  · rw [if_pos ho]; exact List.Pairwise.nil
  · rw [if_neg ho]
    refine List.Pairwise.filter _ ?_
    have h1 := sortT_sorted (s.fs.map (·.1))
    have h2 : (sortT (s.fs.map (·.1))).Nodup := (sortT_perm _).nodup_iff.2 (nd_keys hn)
    refine (h1.and h2).imp (fun {a b} h => ?_)
    rcases lt_or a b with h3 | h3 | h3
    · exact h3
    · exact absurd h3 h.2
    · exact absurd h3 h.1
theorem key_look {fs : Fs} (hn : Nd fs) (t : T) : t ∈ fs.map (·.1) ↔ (look fs t).isSome = true := by
  constructor
  · intro h
    obtain ⟨x, hx, rfl⟩ := List.mem_map.1 h
    rw [look_mem hn hx]; rfl
  · intro h
    obtain ⟨v, hv⟩ := Option.isSome_iff_exists.1 h
    exact List.mem_map.2 ⟨_, mem_look hv, rfl⟩
theorem lists_mem {s : DS} (ho : s.off = false) (hn : Nd s.fs) (pre t : T) : t ∈ listS s pre ↔ (look s.fs t).isSome = true ∧ begins t pre = true := by
  unfold listS
  rw [if_neg (by rw [ho]; decide), List.mem_filter, (sortT_perm _).mem_iff, key_look hn]
theorem lists_len (s : DS) (pre : T) : (listS s pre).length ≤ s.fs.length := by
  unfold listS
  by_cases ho : s.off = true
  · rw [if_pos ho]; exact Nat.zero_le _
  · rw [if_neg ho]
    refine Nat.le_trans (List.length_filter_le _ _) ?_
    rw [(sortT_perm _).length_eq, List.length_map]
    exact Nat.le_refl _
def anyT (ys : List T) (k : Nat) (t : T) : Bool := (ys.take k).any fun y => decide (y = t)
theorem anyT_0 (ys : List T) (t : T) : anyT ys 0 t = false := rfl
theorem anyT_succ {ys : List T} {k : Nat} (t : T) (hk : k < ys.length) : anyT ys (k + 1) t = (anyT ys k t || decide (ys.getD k [] = t)) := by
  unfold anyT
  rw [List.take_add_one, List.any_append, List.getElem?_eq_getElem hk, List.getD_eq_getElem?_getD, List.getElem?_eq_getElem hk]
  simp
theorem anyT_all (ys : List T) (t : T) : anyT ys ys.length t = decide (t ∈ ys) := by
  unfold anyT
  rw [List.take_length, Bool.eq_iff_iff, List.any_eq_true, decide_eq_true_iff]
  constructor
  · rintro ⟨y, hy, h⟩; rw [← of_decide_eq_true h]; exact hy
  · intro h; exact ⟨t, h, decide_eq_true rfl⟩
end Go.Proofs.Ytabomfmjepmkjaa.Dk
end

section
namespace Go.Proofs.Ytabomfmjepmkjaa.Mem
set_option linter.unusedVariables false
set_option linter.unusedSimpArgs false
open Go.RowKit Go.Proofs.YtabomfmjepmkjaaW.PrintWords Go.Proofs.YtabomfmjepmkjaaW.PrintLast Go.Proofs.YtabomfmjepmkjaaW.PrintMore Go.Proofs.Ytabomfmjepmkjaa.Lib
structure Elt (α : Type) where
  kd : Kd α
  el : TypeId
  row : TypeId
  enc : α → Value
  zero : Value
  bytes : Nat
structure Elt.Ok {α : Type} (E : Elt α) : Prop where
  sz : E.kd.sz = 1
  K : ∀ w x cs, E.kd.K w x cs ↔ cs = [E.enc x]
  und : Try.prog.underlying E.row = some (.slice E.el)
  info : (Try.prog.info? E.el).map (fun i => (i.zero, i.size, i.bytes)) = some (some E.zero, 1, E.bytes)
  one : ∀ x, (E.enc x).oneCell' = true
  ozero : Value.cells E.zero = #[E.zero]
  small : E.bytes ≤ 4096
variable {α : Type} {E : Elt α}
structure Own (E : Elt α) (w : World) (ok : Nat → Prop) (A : Option Addr) (n c : Nat) (xs : List α) : Prop where
  len : xs.length = n
  cap : n ≤ c
  max : c ≤ maxLen
  row : (A = none ∧ c = 0) ∨ ∃ (g : Nat) (cur : Array Value), A = some ⟨g, 0, none⟩ ∧ ok g ∧ w.heap[g]? = some (.cells cur E.el (0, 0)) ∧ c ≤ cur.size ∧ ∀ (j : Nat) (x : α), xs[j]? = some x → cur[j]? = some (E.enc x)
theorem Own.nil (w : World) (ok : Nat → Prop) : Own E w ok none 0 0 [] := ⟨rfl, Nat.le_refl _, Nat.zero_le _, .inl ⟨rfl, rfl⟩⟩
section
variable {w w' : World} {ok ok' : Nat → Prop} {A : Option Addr} {n c : Nat} {xs : List α}
theorem Own.mono (h : Own E w ok A n c xs) (ho : ∀ k, ok k → ok' k) : Own E w ok' A n c xs := ⟨h.len, h.cap, h.max, h.row.imp id (fun ⟨g, cur, e, h1, h2⟩ => ⟨g, cur, e, ho _ h1, h2⟩)⟩
theorem Own.move (h : Own E w ok A n c xs) (hm : ∀ a, A = some a → w'.heap[a.block]? = w.heap[a.block]?) : Own E w' ok A n c xs := ⟨h.len, h.cap, h.max, h.row.imp id (fun ⟨g, cur, e, h1, h2, h3⟩ => ⟨g, cur, e, h1, (hm _ e).trans h2, h3⟩)⟩
theorem Own.lt (h : Own E w ok A n c xs) (a : Addr) (ha : A = some a) : a.block < w.heap.size ∧ ok a.block := by
  rcases h.row with ⟨e, _⟩ | ⟨g, cur, e, h1, h2, h3⟩
  · rw [e] at ha; cases ha
  · rw [e] at ha
    obtain rfl := Option.some.inj ha
    exact ⟨blk_lt h2, h1⟩
theorem Own.step (h : Own E w ok A n c xs) (ho : Only ok' w w') (hd : ∀ a, A = some a → ¬ ok' a.block) : Own E w' ok A n c xs := h.move (fun a ha => ho.block _ (h.lt a ha).1 (hd a ha))
theorem Own.reads (HE : E.Ok) (h : Own E w ok A n c xs) : Kd.C E.kd w A n xs := by
  have hm : maxLen = 9223372036854775807 := rfl
  have h1 := h.max
  have h2 := h.cap
  refine ⟨h.len, by omega, fun h0 => ?_⟩
  rcases h.row with ⟨_, hc⟩ | ⟨g, cur, e, _, hg, _, hx⟩
  · omega
  · refine ⟨_, e, fun j p hp => ⟨[E.enc p], HE.sz.symm, (HE.K _ _ _).2 rfl, fun i u hu => ?_⟩⟩
    rcases i with _ | i
    · obtain rfl : E.enc p = u := Option.some.inj hu
      have e1 : E.kd.sz = 1 := HE.sz
      rw [e1]
      rw [show j * 1 + 0 = j by omega, add_at, Nat.zero_add, blk_cell hg]
      exact hx j p hp
    · simp at hu
theorem Own.cutTo (h : Own E w ok A n c xs) (k : Nat) (hk : k ≤ n) : Own E w ok A k k (xs.take k) := by
  have hl := h.len
  have h2 := h.cap
  refine ⟨by rw [List.length_take]; omega, Nat.le_refl _, Nat.le_trans (by omega) h.max, h.row.imp (fun ⟨e, hc⟩ => ⟨e, by omega⟩) (fun ⟨g, cur, e, ho, hg, hc, hx⟩ => ⟨g, cur, e, ho, hg, by omega, fun j x hj => hx j x ?_⟩)⟩
  rw [List.getElem?_take] at hj
  split at hj
  · exact hj
  · cases hj
end
theorem news_of1 (HE : E.Ok) {w : World} {A : Option Addr} {m : Nat} {ys : List α} (hC : Kd.C E.kd w A m ys) (c : Nat) : Src Try.prog 1 E.row (.slice A m c) m (ys.map E.enc) w := by
  obtain ⟨hl, hn, hc⟩ := hC
  by_cases h0 : 0 < m
  · obtain ⟨ad, rfl, hk⟩ := hc h0
    refine Src.ofSlice w HE.und ad m c _ (by rw [List.length_map, hl, Nat.mul_one]) (fun j u hu => ?_) (fun u hu => ?_)
    · rw [List.getElem?_map] at hu
      obtain ⟨p, hp, rfl⟩ := Option.map_eq_some_iff.1 hu
      obtain ⟨cs, _, e, h3⟩ := hk j p hp
      have e1 : E.kd.sz = 1 := HE.sz
      have e2 : cs = [E.enc p] := (HE.K _ _ _).1 e
      subst e2
      have := h3 0 _ rfl
      rw [e1, Nat.mul_one, Nat.add_zero] at this
      exact this
    · obtain ⟨p, _, rfl⟩ := List.mem_map.1 hu
      exact HE.one p
  · have e0 : m = 0 := by omega
    subst e0
    have : ys = [] := List.length_eq_zero_iff.1 hl
    subst this
    rcases A with _ | a
    · exact Src.ofNil w HE.und c
    · exact Src.ofSlice w HE.und a 0 c [] rfl (fun j u hu => by simp at hu) (fun u hu => by cases hu)
theorem info_of (HE : E.Ok) : ∃ i, Try.prog.info? E.el = some i ∧ i.zero = some E.zero ∧ i.size = 1 ∧ i.bytes = E.bytes := by
  have h := HE.info
  cases hi : Try.prog.info? E.el with
  | none => rw [hi] at h; cases h
  | some i =>
    rw [hi] at h
    injection h with h
    injection h with h1 h
    injection h with h2 h3
    exact ⟨i, rfl, h1, h2, h3⟩
theorem append_one (HE : E.Ok) {w : World} {ok : Nat → Prop} {A B : Option Addr} {n c m d : Nat} {xs ys : List α} (ty : TypeId) (h : Own E w ok A n c xs) (hC : Kd.C E.kd w B m ys) (hfit : (n + m) * E.bytes ≤ 140737488355328) (hfit1 : n + m ≤ 140737488355328) :
    ∃ A' c' w', (Builtin.append_ #[E.row, E.row] ty #[.slice A n c, .slice B m d]).run Try.prog w = .ok (.slice A' (n + m) c') w' ∧ Own E w' (okx ok w w') A' (n + m) c' (xs ++ ys) ∧ Only (fun k => ∃ a, A = some a ∧ k = a.block) w w' ∧ (∀ a, A' = some a → A = A' ∨ w.heap.size ≤ a.block) := by
  obtain ⟨i, hi, hz, hsz, hby⟩ := info_of HE
  have hs := news_of1 HE hC d
  rw [← hsz] at hs
  have hl := h.len
  have hcl : ys.length = m := hC.1
  have hm : maxLen = 9223372036854775807 := rfl
  by_cases h0 : m = 0
  · subst h0
    have : ys = [] := List.length_eq_zero_iff.1 hcl
    subst this
    refine ⟨A, c, w, run_append_nothing w _ _ ty _ i HE.und hi A n c h.cap _ hs, ?_, Only.refl _ _, fun a _ => .inl rfl⟩
    rw [List.append_nil]
    exact h.mono (fun _ hk => .inl hk)
  · by_cases hroom : n + m ≤ c
    · rcases h.row with ⟨_, hc0⟩ | ⟨g, cur, rfl, hok, hg, hcc, hx⟩
      · omega
      · have hrun := run_append_room_src w _ _ ty _ i HE.und hi g 0 n c _ m _ hs hroom (fun j hj => by
          rw [List.length_map] at hj
          rw [blk_cell hg, hsz, Array.getElem?_eq_getElem (by omega)]
          rfl) (fun j hj => blk_frozen hg _)
        rw [hsz, Nat.mul_one, Nat.zero_add] at hrun
        obtain ⟨cs', h1, h2⟩ := setCells_block g (ys.map E.enc) n w cur _ _ hg
        refine ⟨_, c, _, hrun, ⟨by rw [List.length_append]; omega, hroom, h.max, .inr ⟨g, cs', rfl, .inl hok, h1, by omega, fun j x hj => ?_⟩⟩, setCells_only g ⟨_, rfl, rfl⟩ _ _ _ _ (Only.refl _ _), fun a _ => .inl rfl⟩
        rw [← blk_cell h1 j]
        by_cases hjn : j < n
        · rw [List.getElem?_append_left (by omega)] at hj
          rw [World.cell?_setCells_out g _ n w ⟨g, j, none⟩ (fun _ _ => .inl hjn), blk_cell hg]
          exact hx j x hj
        · rw [List.getElem?_append_right (by omega), hl] at hj
          obtain ⟨hjy, hjx⟩ := List.getElem?_eq_some_iff.1 hj
          have h3 := World.cell?_setCells_in g (ys.map E.enc) n w (fun q hq => by
            rw [List.length_map] at hq
            rw [blk_cell hg, Array.getElem?_eq_getElem (by omega)]
            rfl) (j - n) (by rw [List.length_map]; exact hjy)
          rw [show n + (j - n) = j by omega] at h3
          rw [h3, List.getElem_map, hjx]
    · have hold : (Builtin.firstCells i.size n (.slice A n c)).run Try.prog w.drew = .ok (xs.map E.enc).toArray w.drew := by
        have h4 : Own E w.drew ok A n c xs := h.move (fun _ _ => rfl)
        have h5 := news_of1 HE (Own.reads HE h4) c
        rw [hsz]
        exact h5.cells
      have hfits := growslice_fits (need := n + m) (old := c) (bytes := i.bytes) (by omega) (by rw [hby]; omega)
      have hrun := run_append_grow_src w _ _ ty _ i E.zero HE.und hi hz A n c _ hold _ m _ hs (by omega) (by omega) hfits
      have hge := grownCap_ge w (n + m) c E.el
      have hmx := grownCap_le_maxLen w (n + m) c E.el (by omega)
      have hlt : w.heap.size < (w.drew.alloc (.cells ((xs.map E.enc ++ ys.map E.enc).toArray ++ Builtin.zeroCells (Value.cells E.zero) (grownCap w (n + m) c E.el - (n + m))) E.el)).heap.size := by simp
      refine ⟨_, _, _, hrun, ⟨by rw [List.length_append]; omega, hge, hmx, .inr ⟨w.heap.size, _, rfl, .inr ⟨Nat.le_refl _, hlt⟩, (MapKept.heap_alloc w.drew _).1, ?_, fun j x hj => ?_⟩⟩, ((Only.refl _ w).drew).alloc _, fun a ha => .inr (by obtain rfl := Option.some.inj ha; exact Nat.le_refl _)⟩
      · rw [Array.size_append, List.size_toArray, List.length_append, List.length_map, List.length_map]
        have : (Builtin.zeroCells (Value.cells E.zero) (grownCap w (n + m) c E.el - (n + m))).size = grownCap w (n + m) c E.el - (n + m) := by
          simp [Builtin.zeroCells, HE.ozero]
        omega
      · have hj2 := (List.getElem?_eq_some_iff.1 hj).1
        rw [Array.getElem?_append_left (by rw [List.size_toArray, List.length_append, List.length_map, List.length_map]; rw [List.length_append] at hj2; exact hj2), List.getElem?_toArray, ← List.map_append, List.getElem?_map, hj]
        rfl
variable {w w' : World} {ok ok' : Nat → Prop} {A : Option Addr} {n c : Nat} {xs : List α}
theorem Own.at (h : Own E w ok A n c xs) (i : Nat) (x : α) (hx : xs[i]? = some x) : ∃ g, A = some ⟨g, 0, none⟩ ∧ ok g ∧ g < w.heap.size ∧ w.cell? ⟨g, i, none⟩ = some (E.enc x) ∧ w.frozen? ⟨g, i, none⟩ = false := by
  have hn := (List.getElem?_eq_some_iff.1 hx).1
  rcases h.row with ⟨_, h0⟩ | ⟨g, cur, e, h1, h2, h3, h4⟩
  · have := h.len; have := h.cap; omega
  · exact ⟨g, e, h1, blk_lt h2, (blk_cell h2 i).trans (h4 i x hx), blk_frozen h2 i⟩
theorem Own.set (h : Own E w ok A n c xs) {g : Nat} (hg : A = some ⟨g, 0, none⟩) (i : Nat) (x : α) : Own E (w.setCell ⟨g, i, none⟩ (E.enc x)) ok A n c (xs.set i x) := by
  refine ⟨by rw [List.length_set]; exact h.len, h.cap, h.max, ?_⟩
  rcases h.row with ⟨h1, _⟩ | ⟨g', cur, e, h1, h2, h3, h4⟩
  · rw [h1] at hg; cases hg
  · rw [e] at hg
    obtain rfl : g' = g := by injection hg with hg; injection hg
    refine .inr ⟨g', cur.setIfInBounds i (E.enc x), e, h1, ?_, by rw [Array.size_setIfInBounds]; exact h3, fun j y hj => ?_⟩
    · simp only [World.setCell, Array.getElem?_modify, if_pos, h2, Option.map_some]
      rfl
    · rw [List.getElem?_set] at hj
      rw [Array.getElem?_setIfInBounds]
      by_cases hij : i = j
      · subst hij
        rw [if_pos rfl] at hj
        by_cases hi : i < xs.length
        · rw [if_pos hi] at hj
          obtain rfl := Option.some.inj hj
          have := h.len; have := h.cap
          rw [if_pos rfl, if_pos (by omega)]
        · rw [if_neg hi] at hj; cases hj
      · rw [if_neg hij] at hj
        rw [if_neg hij]
        exact h4 j y hj
theorem C_one (HE : E.Ok) {w : World} {g : Nat} {x : α} {t : TypeId} (h : w.heap[g]? = some (.cells #[E.enc x] t (0, 0))) : Kd.C E.kd w (some ⟨g, 0, none⟩) 1 [x] := by
  refine ⟨rfl, by decide, fun _ => ⟨_, rfl, fun j p hp => ⟨[E.enc p], HE.sz.symm, (HE.K _ _ _).2 rfl, fun i u hu => ?_⟩⟩⟩
  rcases j with _ | j
  · obtain rfl : x = p := Option.some.inj hp
    rcases i with _ | i
    · obtain rfl : E.enc x = u := Option.some.inj hu
      rw [Nat.zero_mul, Nat.zero_add, add_at, Nat.zero_add, blk_cell h]; rfl
    · simp at hu
  · simp at hp
section
variable {ops : Array Oper} {o : Oper} {a : Act} {Q : Exit → Act → World → Prop}
theorem append_one_event (HE : E.Ok) {rest : List Oper} {W : World} (hgd : o.guard = none) {sx x : Operand} {ts : Array TypeId} (hop : o.op = .call { callee := .builtin .append, args := #[sx, x], argTypes := ts }) (hts : ts = #[E.row, E.row]) {ok : Nat → Prop} {A B : Option Addr} {n c m d : Nat} {xs ys : List α}
    (hs : a.eval sx = .slice A n c) (hx : a.eval x = .slice B m d) (h : Own E W ok A n c xs) (hC : Kd.C E.kd W B m ys) (hfit : (n + m) * E.bytes ≤ 140737488355328) (hfit1 : n + m ≤ 140737488355328)
    (hK : ∀ A' c' w', Own E w' (okx ok W w') A' (n + m) c' (xs ++ ys) → Only (fun k => ∃ a, A = some a ∧ k = a.block) W w' → (∀ a, A' = some a → A = A' ∨ W.heap.size ≤ a.block) → wpList Try.prog ops Q rest (a.put o.dst (.slice A' (n + m) c')) w') : wpList Try.prog ops Q (o :: rest) a W := by
  subst hts
  obtain ⟨A', c', w', hrun, h1, h2, h3⟩ := append_one HE (d := d) o.type h hC hfit hfit1
  exact Kd.event_run hgd (v := .slice A' (n + m) c') (w1 := w') (by simp [execOp, hop, resolve, invoke, builtin, hs, hx, hrun, Result.andThen]) (hK A' c' w' h1 h2 h3)
end
def eT : Elt Txt.T := ⟨Txt.text, 9, 36, encStr, .string .empty, 16⟩
theorem eT_ok : eT.Ok := ⟨rfl, fun _ _ _ => Iff.rfl, Try.underlying36, by kernel_rfl, fun _ => rfl, rfl, by decide⟩
end Go.Proofs.Ytabomfmjepmkjaa.Mem
end

section
namespace Go.Proofs.Ytabomfmjepmkjaa.Dk
set_option linter.unusedVariables false
set_option linter.unusedSimpArgs false
open Go.RowKit Go.Proofs.YtabomfmjepmkjaaW.PrintWords Go.Proofs.YtabomfmjepmkjaaW.PrintLast Go.Proofs.YtabomfmjepmkjaaW.PrintMore Go.Proofs.Ytabomfmjepmkjaa.Lib Go.Proofs.Ytabomfmjepmkjaa.Mem Go.Proofs.Ytabomfmjepmkjaa.Txt
open Go.MapKept Go.ChangeMaps
attribute [local go_sem high] Go.Proofs.Ytabomfmjepmkjaa.Ext.geq_str
structure DG (w w' : World) (p : Nat) (s : DS) (A : Option Addr) (n c : Nat) (ys : List T) (okd okg : Nat → Prop) : Prop where
  dk : DkAt w' okd p s
  own : Own eT w' okg A n c ys
  apart : ∀ k, okd k → ¬ okg k
  lod : ∀ k, okd k → w.heap.size ≤ k ∧ k < w'.heap.size
  log : ∀ k, okg k → w.heap.size ≤ k ∧ k < w'.heap.size
  bel : Below w.heap.size w w'
section
variable {w w1 w2 : World} {p : Nat} {s s' : DS} {A A' : Option Addr} {n c n' c' : Nat} {ys ys' : List T} {okd okg : Nat → Prop}
theorem DG.disk (h : DG w w1 p s A n c ys okd okg) (hd : DkAt w2 (okx okd w1 w2) p s') (ho : Only okd w1 w2) : DG w w2 p s' A n c ys (okx okd w1 w2) okg :=
  ⟨hd, h.own.step ho (fun a ha hk => h.apart _ hk (h.own.lt a ha).2), fun k hk hg => hk.elim (fun h2 => h.apart k h2 hg) (fun h2 => by have := h.log k hg; omega),
    fun k hk => hk.elim (fun h2 => ⟨(h.lod k h2).1, Nat.lt_of_lt_of_le (h.lod k h2).2 ho.size⟩) (fun h2 => ⟨by have := h.bel.size; omega, h2.2⟩), fun k hk => ⟨(h.log k hk).1, Nat.lt_of_lt_of_le (h.log k hk).2 ho.size⟩,
    h.bel.trans (ho.below h.bel.size (fun k hk => (h.lod k hk).1))⟩
theorem DG.below (h : DG w w1 p s A n c ys okd okg) (hb : Below w1.heap.size w1 w2) : DG w w2 p s A n c ys okd okg :=
  ⟨h.dk.below hb, h.own.step (Only.of_below (ok := fun _ => False) hb) (fun _ _ h => h), h.apart, fun k hk => ⟨(h.lod k hk).1, Nat.lt_of_lt_of_le (h.lod k hk).2 hb.size⟩, fun k hk => ⟨(h.log k hk).1, Nat.lt_of_lt_of_le (h.log k hk).2 hb.size⟩,
    below_then h.bel h.bel.size hb⟩
theorem DG.app (h : DG w w1 p s A n c ys okd okg) (hr : Own eT w2 (okx okg w1 w2) A' n' c' ys') (ho : Only (fun k => ∃ a, A = some a ∧ k = a.block) w1 w2) : DG w w2 p s A' n' c' ys' okd (okx okg w1 w2) :=
  ⟨h.dk.step ho (fun k hk _ ⟨a, ha, e⟩ => h.apart k hk (by rw [e]; exact (h.own.lt a ha).2)), hr, fun k hk hg => hg.elim (fun h2 => h.apart k hk h2) (fun h2 => by have := h.lod k hk; omega),
    fun k hk => ⟨(h.lod k hk).1, Nat.lt_of_lt_of_le (h.lod k hk).2 ho.size⟩, fun k hk => hk.elim (fun h2 => ⟨(h.log k h2).1, Nat.lt_of_lt_of_le (h.log k h2).2 ho.size⟩) (fun h2 => ⟨by have := h.bel.size; omega, h2.2⟩),
    h.bel.trans (ho.below h.bel.size (fun k ⟨a, ha, e⟩ => by rw [e]; exact (h.log _ (h.own.lt a ha).2).1))⟩
end
inductive RelL (w : World) (p : Nat) (v7 v8 : Value) (w' : World) : Prop
  | mk (i : Nat) (s : DS) (ys : List T) (A : Option Addr) (n c : Nat) (okd okg : Nat → Prop) (e7 : v7 = .slice A n c) (e8 : v8 = .int .i64 i) (hg : Good s ys i) (hi : i ≤ 60) (hd : DG w w' p s A n c ys okd okg)
theorem cut_bs (p : T) (j : Nat) : (bs p).extract 0 j = bs (p.take j) := by
  rw [bs_eq, bs_data, ByteArray.data_extract, Array.toList_extract, List.extract_eq_take_drop]
  simp [bs]
theorem begins_f (t p : T) : P.gristmillref12_Begins.f (bs t) (bs p) = some (begins t p) := by
  unfold P.gristmillref12_Begins.f
  rw [bs_size, bs_size, begins_take]
  by_cases h : p.length ≤ t.length
  · rw [if_pos (by omega), if_pos (by omega), if_pos (by omega), Int.toNat_natCast, cut_bs, Ext.eq_dec, bs_data, bs_data]
    simp [h]
  · rw [if_neg (by omega)]
    simp [h]
theorem less_ts (a b : T) : Op.bytesLess (bs a).toList (bs b).toList = decide (a < b) := less_is (bs a) (bs b)
theorem rises_at {l : List T} (h : l.Pairwise (· < ·)) {i j : Nat} (hij : i < j) (hj : j < l.length) : l.getD i [] < l.getD j [] := by
  rw [List.getD_eq_getElem?_getD, List.getElem?_eq_getElem (by omega), List.getD_eq_getElem?_getD, List.getElem?_eq_getElem hj]
  exact List.pairwise_iff_getElem.1 h i j (by omega) hj hij
theorem wrapS {k : Nat} (h : k < 1000000) : wrap64 ((k : Int) + 1) = ((k + 1 : Nat) : Int) := by
  unfold wrap64
  omega
inductive RelR (n : Nat) (w : World) (v : Value) (w' : World) : Prop
  | mk (i : Nat) (e : v = .int .i64 i) (hi : i ≤ n) (hb : Below w.heap.size w w')
inductive RelI (b : Bool) (ys : List T) (t : T) (w : World) (v v2 : Value) (w' : World) : Prop
  | mk (i : Nat) (e : v = .bool (b || anyT ys i t)) (e2 : v2 = .int .i64 i) (hi : i ≤ ys.length) (hb : Below w.heap.size w w')
set_option maxRecDepth 100000 in
set_option maxHeartbeats 3200000 in
theorem lists_calls (names : List T) (pre : T) (n0 c0 : Nat) (A0 : Option Addr) (w : World) (hC : text.C w A0 n0 names) (hn : ∀ t ∈ names, t.length < 4611686018427387904) (hp : pre.length < 4611686018427387904) :
    Calls Try.prog 5 #[.slice A0 n0 c0, .string (bs pre)] w fun e w' => e = .returned (.bool true) ∧ Below w.heap.size w w' := by
  obtain rfl := hC.1
  have HC := Aside0.mk hC
  have HN := Aside0.mk hn
  have HP := Aside0.mk hp
  have HM := Aside0.mk hC.2.1
  clear hC hn hp
  go_enter Try.func5, Try.ntmps5
  go_wp2_with fail
  refine (awake_calls w).mono ?_
  rintro e w1 ⟨rfl, hb⟩
  have HB1 := Aside0.mk hb
  clear hb
  go_wp2_with fail
  refine (new_calls w1).mono ?_
  rintro e w2 ⟨p, rfl, hd, hb, _⟩
  have HS := Aside0.mk (show RelL w p (.slice none 0 0) (.int .i64 0) w2 from .mk 0 emptyS [] none 0 0 _ (fun _ => False) rfl rfl good_0 (by decide) ⟨hd, ⟨rfl, Nat.le_refl _, Nat.zero_le _, .inl ⟨rfl, rfl⟩⟩, fun _ _ h => h, fun k hk => hk.elim False.elim (fun h => ⟨Nat.le_trans HB1.out.size h.1, h.2⟩), fun _ h => h.elim, below_then HB1.out HB1.out.size hb⟩)
  clear hd hb HB1
  go_wp2_with fail
  go_loopw [7, 8] (fun v7 v8 w' => RelL w p v7 v8 w') (fun v7 v8 _ => 60 - (intOf v8).toNat)
  case atStart => exact HS.out
  case round =>
    clear HS
    obtain ⟨i, s, ys, A, n, c, okd, okg, rfl, rfl, hg, hi, hd⟩ := hrel
    have HG := Aside0.mk hg
    have HD := Aside0.mk hd
    clear hg hd
    by_cases h1 : i < names.length
    · by_cases h2 : i < 60
      · have hc1 : decide ((i : Int) < (names.length : Int)) = true := decide_eq_true (by omega)
        have hc2 : decide ((i : Int) < 60) = true := decide_eq_true (by omega)
        obtain ⟨ad, rfl, hcell⟩ := at_text (Kd.C_below HC.out HD.out.bel) i h1
        have HCell := Aside0.mk (fun (w' : World) (hb : Below w.heap.size w w') => (by
          obtain ⟨ad', e, h⟩ := at_text (Kd.C_below HC.out hb) i h1
          injection e with e
          subst e
          exact h : w'.cell? (ad.add i) = some (.string (bs (names.getD i [])))))
        have HSh := Aside0.mk (show Shorts [names.getD i []] from fun t ht => by rw [List.mem_singleton.1 ht]; refine HN.out _ ?_; rw [List.getD_eq_getElem?_getD, List.getElem?_eq_getElem h1]; exact List.getElem_mem h1)
        generalize names.getD i [] = nm at *
        have hii : (i : Int) < (names.length : Int) := by omega
        clear h1
        go_wp2_with fail
        refine (append_calls wr okd p 0 0 s nm none [] HD.out.dk HSh.out ⟨HG.out.ops.1, by have := HG.out.ops.2; omega⟩ (Kd.C_nil _ _) (good_fit HG.out nm)).mono ?_
        rintro e w4 ⟨rfl, hd, ho⟩
        have HD4 := Aside0.mk (HD.out.disk hd ho)
        clear hd ho HD hcell
        cases hnm : named nm with
        | true =>
          obtain ⟨e0, hg1⟩ := good_yes HG.out hnm h2
          rw [e0]
          have HG1 := Aside0.mk hg1
          have hcell := HCell.out w4 HD4.out.bel
          generalize (appendS s nm []).1 = s1 at *
          clear e0 hg1
          go_wp2_with (first
            | ((with_reducible refine gate_dst (N := 44) rfl ?_); refine row_event2 ?hg (N := 44) ?hd (cs := #[.string (bs nm)]) (t := 9) (n := 1) (c := 1) ?hr ?_; (case hd => rfl); (case hg => rfl); (case hr => first | (go_simp; done) | (go_simp; rfl)); intro g8 hg w8 hbox hb; have GE8 := Aside0.mk (Nat.le_of_eq hg.symm); have BK8 := Aside0.mk hbox; have HX8 := Aside0.mk hb; clear hg hbox hb)
            | ((with_reducible refine gate_builtin (b := .append) (xs := #[.tmp 39, .tmp 44]) rfl ?_); refine append_one_event eT_ok rfl rfl rfl rfl rfl (HD4.out.below HX8.out).own (C_one eT_ok (x := nm) BK8.out) ?_ ?_ ?_; (case refine_1 => have := HD4.out.own.len; have := HG.out.yn; show (n + 1) * 16 ≤ _; omega); (case refine_2 => have := HD4.out.own.len; have := HG.out.yn; omega); intro A9 c9 w9 hr9 ho9 _; have HD9 := Aside0.mk ((HD4.out.below HX8.out).app hr9 ho9); clear hr9 ho9)
            | fail)
          go_roundw
          case rel => exact .mk (i + 1) s1 _ _ _ _ _ _ rfl (by go_num) HG1.out (by omega) HD9.out
          case measure => simp [intOf]; omega
        | false =>
          obtain ⟨e0, hg1⟩ := good_no HG.out hnm
          rw [e0] at HD4 ⊢
          have HG1 := Aside0.mk hg1
          clear e0 hg1
          go_wp2_with fail
          go_roundw
          case rel => exact .mk (i + 1) s _ _ _ _ _ _ rfl (by go_num) HG1.out (by omega) HD4.out
          case measure => simp [intOf]; omega
      · obtain rfl : i = 60 := by omega
        have hii : (60 : Int) < (names.length : Int) := by omega
        clear h1 h2
        go_wp2_with fail
        refine (list_calls wr okd p s pre HD.out.dk (by have := HG.out.len; omega) (fun x hx => Nat.le_trans (HG.out.named x hx) (by decide))).mono ?_
        rintro e w3 ⟨v3, rfl, hr, hb⟩
        obtain ⟨A3, c3, rfl, hc3, hC3⟩ := Kd.R_reads hr
        have HR3 := Aside0.mk (show text.C w3 A3 (listS s pre).length (listS s pre) from hC3)
        obtain rfl : ys.length = n := HD.out.own.len
        have HY3 := Aside0.mk (show text.C w3 A ys.length ys from Own.reads eT_ok (HD.out.below hb).own)
        have HB3 := Aside0.mk (HD.out.below hb).bel
        have HL1 := Aside0.mk (fun t (h : t ∈ listS s pre) => (show t ∈ ys ∧ begins t pre = true from by
          have := (lists_mem HG.out.off HG.out.nd pre t).1 h
          exact ⟨(HG.out.mem t).1 this.1, this.2⟩))
        have HL2 := Aside0.mk (lists_rises HG.out.nd pre)
        have HL3 := Aside0.mk (fun t (h : t ∈ ys) (h2 : begins t pre = true) => (lists_mem HG.out.off HG.out.nd pre t).2 ⟨(HG.out.mem t).2 h, h2⟩)
        have HM1 := Aside0.mk (show ys.length < 1000 by have := HG.out.yn; omega)
        have HM2 := Aside0.mk (show (listS s pre).length < 1000 by have := HG.out.len; have := lists_len s pre; omega)
        generalize listS s pre = ls at *
        clear hr hb hc3 hC3 HD HG
        go_wp2_with fail
        go_loopw [11] (fun v11 w' => RelR ls.length w3 v11 w') (fun v11 _ => ls.length - (intOf v11).toNat)
        case atStart => exact .mk 0 rfl (Nat.zero_le _) (Below.refl _ _)
        case round =>
          obtain ⟨q, rfl, hq, hb⟩ := hrel
          have HBq := Aside0.mk hb
          clear hb
          by_cases hlt : q < ls.length
          · have HWq := Aside0.mk (wrapS (k := q) (by have := HM2.out; omega))
            have hqi : (q : Int) < (ls.length : Int) := by omega
            go_wp2_with fail
            obtain ⟨wA, hA⟩ : ∃ x, x = wr := ⟨_, rfl⟩
            subst hA
            obtain ⟨t, ht⟩ : ∃ t, t = ls.getD q [] := ⟨_, rfl⟩
            have HT := Aside0.mk ht
            clear ht
            go_loopw [12, 13] (fun v12 v13 w' => RelI false ys t wA v12 v13 w') (fun v12 v13 _ => ys.length - (intOf v13).toNat)
            case atStart => exact .mk 0 rfl rfl (Nat.zero_le _) (Below.refl _ _)
            case round =>
              obtain ⟨k, rfl, rfl, hk, hb⟩ := hrel
              have HBi := Aside0.mk hb
              have HBk := Aside0.mk (below_then HBq.out HBq.out.size hb)
              clear hb
              by_cases hkl : k < ys.length
              · have hki : (k : Int) < (ys.length : Int) := by omega
                have HW := Aside0.mk (wrapS (k := k) (by have := HM1.out; omega))
                obtain ⟨ad1, rfl, hc1⟩ := at_text (Kd.C_below HY3.out HBk.out) k hkl
                obtain ⟨ad2, rfl, hc2⟩ := at_text (Kd.C_below HR3.out HBk.out) q hlt
                have HSucc := Aside0.mk (anyT_succ t hkl)
                rw [← HT.out] at hc2
                generalize ys.getD k [] = y at *
                cases hany : anyT ys k t with
                | true =>
                  rw [hany] at HSucc
                  simp only [Bool.false_or]
                  go_wp2_with fail
                  go_quiet (fail)
                  go_wp2_with fail
                  go_roundw
                  case rel => exact .mk (k + 1) (by rw [HSucc.out]; rfl) (by rw [HW.out]) (by omega) (pw_below_drewN HBi.out _)
                  case measure => rw [HW.out]; simp [intOf]; omega
                | false =>
                  rw [hany] at HSucc
                  simp only [Bool.false_or]
                  go_wp2_with fail
                  go_quiet (fail)
                  go_wp2_with fail
                  go_roundw
                  case rel => exact .mk (k + 1) (by rw [HSucc.out, Ext.eq_dec]; rfl) (by rw [HW.out]) (by omega) (pw_below_drewN HBi.out _)
                  case measure => rw [HW.out]; simp [intOf]; omega
              · obtain rfl : k = ys.length := by omega
                have hki : ¬ (ys.length : Int) < (ys.length : Int) := by omega
                have HIn := Aside0.mk (HL1.out t (by rw [HT.out, List.getD_eq_getElem?_getD, List.getElem?_eq_getElem hlt]; exact List.getElem_mem hlt))
                have hany : anyT ys ys.length t = true := by rw [anyT_all]; exact decide_eq_true HIn.out.1
                rw [hany]
                simp only [Bool.false_or]
                clear hany hkl hk
                have HBeg := Aside0.mk (show P.gristmillref12_Begins.f (bs t) (bs pre) = some true from (begins_f t pre).trans (congrArg some HIn.out.2))
                obtain ⟨ad2, rfl, hc2⟩ := at_text (Kd.C_below HR3.out HBk.out) q hlt
                rw [← HT.out] at hc2
                by_cases hq0 : q = 0
                · have hg0 : decide (0 < q) = false := decide_eq_false (by omega)
                  have hg1 : decide ((0 : Int) < (q : Int)) = false := decide_eq_false (by omega)
                  clear hq0
                  go_wp2_with fail
                  refine start_ (n := 27) (S := fun w' => w'.cell? (ad2.add q) = some (.string (bs t))) (ds := []) #[false, false, false, false, false, false, false, false, false, false, false, false, false, false, false, false, false, false, false, false, false, false, false, false, false, false, false] (by kernel_rfl) rfl rfl (hc2) (fun hHeld => ?_)
                  refine pure_ (i := 0) (N := some 75) (v := ?_) (a' := ?_) #[true, false, false, false, false, false, false, false, false, false, false, false, false, false, false, false, false, false, false, false, false, false, false, false, false, false, false] rfl rfl (by kernel_rfl) (fun _ _ _ h => h) (Or.inl ⟨by rfl, ?_⟩) ?_ ?_
                  rotate_left
                  · intro w'
                    go_simp
                    with_reducible rfl
                  rotate_left
                  · simp only [Act.put, List.setIfInBounds_toArray, List.set_cons_zero, List.set_cons_succ, i64_w, i32_w]
                    rfl
                  refine pure_ (i := 1) (N := some 76) (v := ?_) (a' := ?_) #[true, true, false, false, false, false, false, false, false, false, false, false, false, false, false, false, false, false, false, false, false, false, false, false, false, false, false] rfl rfl (by kernel_rfl) (fun _ _ _ h => h) (Or.inl ⟨by rfl, ?_⟩) ?_ ?_
                  rotate_left
                  · intro w'
                    go_simp
                    with_reducible rfl
                  rotate_left
                  · simp only [Act.put, List.setIfInBounds_toArray, List.set_cons_zero, List.set_cons_succ, i64_w, i32_w]
                    rfl
                  refine pure_ (i := 2) (N := some 77) (v := ?_) (a' := ?_) #[true, true, true, false, false, false, false, false, false, false, false, false, false, false, false, false, false, false, false, false, false, false, false, false, false, false, false] rfl rfl (by kernel_rfl) (fun _ _ _ h => h) (Or.inl ⟨by rfl, ?_⟩) ?_ ?_
                  rotate_left
                  · intro w'
                    go_simp
                    with_reducible rfl
                  rotate_left
                  · simp only [Act.put, List.setIfInBounds_toArray, List.set_cons_zero, List.set_cons_succ, i64_w, i32_w]
                    rfl
                  refine pure_ (i := 3) (N := some 78) (v := ?_) (a' := ?_) #[true, true, true, true, false, false, false, false, false, false, false, false, false, false, false, false, false, false, false, false, false, false, false, false, false, false, false] rfl rfl (by kernel_rfl) (fun _ _ _ h => h) (Or.inl ⟨by rfl, ?_⟩) ?_ ?_
                  rotate_left
                  · intro w'
                    go_simp
                    with_reducible rfl
                  rotate_left
                  · simp only [Act.put, List.setIfInBounds_toArray, List.set_cons_zero, List.set_cons_succ, i64_w, i32_w]
                    rfl
                  refine pure_ (i := 4) (N := some 79) (v := ?_) (a' := ?_) #[true, true, true, true, true, false, false, false, false, false, false, false, false, false, false, false, false, false, false, false, false, false, false, false, false, false, false] rfl rfl (by kernel_rfl) (fun _ _ _ h => h) (Or.inl ⟨by rfl, ?_⟩) ?_ ?_
                  rotate_left
                  · intro w'
                    go_simp
                    with_reducible rfl
                  rotate_left
                  · simp only [Act.put, List.setIfInBounds_toArray, List.set_cons_zero, List.set_cons_succ, i64_w, i32_w]
                    rfl
                  refine pure_ (i := 5) (N := some 80) (v := ?_) (a' := ?_) #[true, true, true, true, true, true, false, false, false, false, false, false, false, false, false, false, false, false, false, false, false, false, false, false, false, false, false] rfl rfl (by kernel_rfl) (fun _ _ _ h => h) (Or.inl ⟨by rfl, ?_⟩) ?_ ?_
                  rotate_left
                  · intro w'
                    go_simp
                    with_reducible rfl
                  rotate_left
                  · simp only [Act.put, List.setIfInBounds_toArray, List.set_cons_zero, List.set_cons_succ, i64_w, i32_w]
                    rfl
                  refine pure_ (i := 7) (N := some 82) (v := ?_) (a' := ?_) #[true, true, true, true, true, true, false, true, false, false, false, false, false, false, false, false, false, false, false, false, false, false, false, false, false, false, false] rfl rfl (by kernel_rfl) (fun _ _ _ h => h) (Or.inl ⟨by rfl, ?_⟩) ?_ ?_
                  rotate_left
                  · intro w'
                    go_simp
                    with_reducible rfl
                  rotate_left
                  · simp only [Act.put, List.setIfInBounds_toArray, List.set_cons_zero, List.set_cons_succ, i64_w, i32_w]
                    rfl
                  refine take_ (i := 6) (N := some 81) (v := ?_) (a' := ?_) #[true, true, true, true, true, true, true, true, false, false, false, false, false, false, false, false, false, false, false, false, false, false, false, false, false, false, false] rfl rfl (by kernel_rfl) (fun _ _ _ h => h) (Or.inl ⟨by rfl, ?_⟩) hHeld ?_ ?_
                  rotate_left
                  · intro w' s0
                    go_simp
                    with_reducible rfl
                  rotate_left
                  · simp only [Act.put, List.setIfInBounds_toArray, List.set_cons_zero, List.set_cons_succ, i64_w, i32_w]
                    rfl
                  refine one_ (i := 8) (N := some 83) #[true, true, true, true, true, true, true, true, true, false, false, false, false, false, false, false, false, false, false, false, false, false, false, false, false, false, false] rfl rfl (by kernel_rfl) (by decide) (fun K hK => ?_)
                  refine goes_ Try.func22 (by kernel_rfl) rfl #[.string (bs t), .string (bs pre)] (by rfl) rfl rfl (by simp only [List.map_toArray, List.map_cons, List.map_nil]; rfl) ?_
                  with_reducible refine (P.gristmillref12_Begins.calls (bs t) (bs pre) true _ HBeg.out).mono ?_
                  rintro e w5 ⟨rfl, hdr⟩
                  refine ⟨_, rfl, ?_⟩
                  have HB5 := Aside0.mk (below_then (below_drew HBi.out) HBi.out.size hdr.below)
                  clear hdr
                  obtain ⟨ad3, e3, hc3⟩ := at_text (Kd.C_below HR3.out (below_then HBq.out HBq.out.size HB5.out)) q hlt
                  obtain rfl := Option.some.inj e3
                  rw [← HT.out] at hc3
                  clear e3
                  refine hK.out _ _ (hc3) (fun hHeld => ?_)
                  clear hK K
                  refine norm_ (a' := ?_) ?_ ?_
                  rotate_left
                  · show Act.put _ (some 83) _ = _
                    simp only [Act.put, List.setIfInBounds_toArray, List.set_cons_zero, List.set_cons_succ, i64_w, i32_w]
                    rfl
                  refine pure_ (i := 9) (N := some 84) (v := ?_) (a' := ?_) #[true, true, true, true, true, true, true, true, true, true, false, false, false, false, false, false, false, false, false, false, false, false, false, false, false, false, false] rfl rfl (by kernel_rfl) (fun _ _ _ h => h) (Or.inl ⟨by rfl, ?_⟩) ?_ ?_
                  rotate_left
                  · intro w'
                    go_simp
                    with_reducible rfl
                  rotate_left
                  · simp only [Act.put, List.setIfInBounds_toArray, List.set_cons_zero, List.set_cons_succ, i64_w, i32_w]
                    rfl
                  refine pure_ (i := 10) (N := some 85) (v := ?_) (a' := ?_) #[true, true, true, true, true, true, true, true, true, true, true, false, false, false, false, false, false, false, false, false, false, false, false, false, false, false, false] rfl rfl (by kernel_rfl) (fun _ _ _ h => h) (Or.inl ⟨by rfl, ?_⟩) ?_ ?_
                  rotate_left
                  · intro w'
                    go_simp
                    with_reducible rfl
                  rotate_left
                  · simp only [Act.put, List.setIfInBounds_toArray, List.set_cons_zero, List.set_cons_succ, i64_w, i32_w]
                    rfl
                  refine pure_ (i := 11) (N := some 86) (v := ?_) (a' := ?_) #[true, true, true, true, true, true, true, true, true, true, true, true, false, false, false, false, false, false, false, false, false, false, false, false, false, false, false] rfl rfl (by kernel_rfl) (fun _ _ _ h => h) (Or.inl ⟨by rfl, ?_⟩) ?_ ?_
                  rotate_left
                  · intro w'
                    go_simp
                    with_reducible rfl
                  rotate_left
                  · simp only [Act.put, List.setIfInBounds_toArray, List.set_cons_zero, List.set_cons_succ, i64_w, i32_w]
                    rfl
                  refine pure_ (i := 12) (N := some 87) (v := ?_) (a' := ?_) #[true, true, true, true, true, true, true, true, true, true, true, true, true, false, false, false, false, false, false, false, false, false, false, false, false, false, false] rfl rfl (by kernel_rfl) (fun _ _ _ h => h) (Or.inl ⟨by rfl, ?_⟩) ?_ ?_
                  rotate_left
                  · intro w'
                    go_simp
                    with_reducible rfl
                  rotate_left
                  · simp only [Act.put, List.setIfInBounds_toArray, List.set_cons_zero, List.set_cons_succ, i64_w, i32_w]
                    rfl
                  refine pure_ (i := 13) (N := some 88) (v := ?_) (a' := ?_) #[true, true, true, true, true, true, true, true, true, true, true, true, true, true, false, false, false, false, false, false, false, false, false, false, false, false, false] rfl rfl (by kernel_rfl) (fun _ _ _ h => h) (Or.inl ⟨by rfl, ?_⟩) ?_ ?_
                  rotate_left
                  · intro w'
                    go_simp
                    with_reducible rfl
                  rotate_left
                  · simp only [Act.put, List.setIfInBounds_toArray, List.set_cons_zero, List.set_cons_succ, i64_w, i32_w]
                    rfl
                  refine pure_ (i := 14) (N := some 89) (v := ?_) (a' := ?_) #[true, true, true, true, true, true, true, true, true, true, true, true, true, true, true, false, false, false, false, false, false, false, false, false, false, false, false] rfl rfl (by kernel_rfl) (fun _ _ _ h => h) (Or.inl ⟨by rfl, ?_⟩) ?_ ?_
                  rotate_left
                  · intro w'
                    go_simp
                    with_reducible rfl
                  rotate_left
                  · simp only [Act.put, List.setIfInBounds_toArray, List.set_cons_zero, List.set_cons_succ, i64_w, i32_w]
                    rfl
                  refine pure_ (i := 15) (N := some 90) (v := undef) (a' := ?_) #[true, true, true, true, true, true, true, true, true, true, true, true, true, true, true, true, false, false, false, false, false, false, false, false, false, false, false] rfl rfl (by kernel_rfl) (fun _ _ _ h => h) (Or.inr ⟨by rfl, rfl⟩) ?_ ?_
                  rotate_left
                  · simp only [Act.put, List.setIfInBounds_toArray, List.set_cons_zero, List.set_cons_succ, i64_w, i32_w]
                    rfl
                  refine pure_ (i := 16) (N := some 91) (v := undef) (a' := ?_) #[true, true, true, true, true, true, true, true, true, true, true, true, true, true, true, true, true, false, false, false, false, false, false, false, false, false, false] rfl rfl (by kernel_rfl) (fun _ _ _ h => h) (Or.inr ⟨by rfl, rfl⟩) ?_ ?_
                  rotate_left
                  · simp only [Act.put, List.setIfInBounds_toArray, List.set_cons_zero, List.set_cons_succ, i64_w, i32_w]
                    rfl
                  refine pure_ (i := 17) (N := some 92) (v := undef) (a' := ?_) #[true, true, true, true, true, true, true, true, true, true, true, true, true, true, true, true, true, true, false, false, false, false, false, false, false, false, false] rfl rfl (by kernel_rfl) (fun _ _ _ h => h) (Or.inr ⟨by rfl, rfl⟩) ?_ ?_
                  rotate_left
                  · simp only [Act.put, List.setIfInBounds_toArray, List.set_cons_zero, List.set_cons_succ, i64_w, i32_w]
                    rfl
                  refine pure_ (i := 18) (N := some 93) (v := undef) (a' := ?_) #[true, true, true, true, true, true, true, true, true, true, true, true, true, true, true, true, true, true, true, false, false, false, false, false, false, false, false] rfl rfl (by kernel_rfl) (fun _ _ _ h => h) (Or.inr ⟨by rfl, rfl⟩) ?_ ?_
                  rotate_left
                  · simp only [Act.put, List.setIfInBounds_toArray, List.set_cons_zero, List.set_cons_succ, i64_w, i32_w]
                    rfl
                  refine pure_ (i := 19) (N := some 94) (v := undef) (a' := ?_) #[true, true, true, true, true, true, true, true, true, true, true, true, true, true, true, true, true, true, true, true, false, false, false, false, false, false, false] rfl rfl (by kernel_rfl) (fun _ _ _ h => h) (Or.inr ⟨by rfl, rfl⟩) ?_ ?_
                  rotate_left
                  · simp only [Act.put, List.setIfInBounds_toArray, List.set_cons_zero, List.set_cons_succ, i64_w, i32_w]
                    rfl
                  refine pure_ (i := 20) (N := some 95) (v := undef) (a' := ?_) #[true, true, true, true, true, true, true, true, true, true, true, true, true, true, true, true, true, true, true, true, true, false, false, false, false, false, false] rfl rfl (by kernel_rfl) (fun _ _ _ h => h) (Or.inr ⟨by rfl, rfl⟩) ?_ ?_
                  rotate_left
                  · simp only [Act.put, List.setIfInBounds_toArray, List.set_cons_zero, List.set_cons_succ, i64_w, i32_w]
                    rfl
                  refine pure_ (i := 21) (N := some 96) (v := undef) (a' := ?_) #[true, true, true, true, true, true, true, true, true, true, true, true, true, true, true, true, true, true, true, true, true, true, false, false, false, false, false] rfl rfl (by kernel_rfl) (fun _ _ _ h => h) (Or.inr ⟨by rfl, rfl⟩) ?_ ?_
                  rotate_left
                  · simp only [Act.put, List.setIfInBounds_toArray, List.set_cons_zero, List.set_cons_succ, i64_w, i32_w]
                    rfl
                  refine pure_ (i := 22) (N := some 97) (v := undef) (a' := ?_) #[true, true, true, true, true, true, true, true, true, true, true, true, true, true, true, true, true, true, true, true, true, true, true, false, false, false, false] rfl rfl (by kernel_rfl) (fun _ _ _ h => h) (Or.inr ⟨by rfl, rfl⟩) ?_ ?_
                  rotate_left
                  · simp only [Act.put, List.setIfInBounds_toArray, List.set_cons_zero, List.set_cons_succ, i64_w, i32_w]
                    rfl
                  refine pure_ (i := 23) (N := some 98) (v := undef) (a' := ?_) #[true, true, true, true, true, true, true, true, true, true, true, true, true, true, true, true, true, true, true, true, true, true, true, true, false, false, false] rfl rfl (by kernel_rfl) (fun _ _ _ h => h) (Or.inr ⟨by rfl, rfl⟩) ?_ ?_
                  rotate_left
                  · simp only [Act.put, List.setIfInBounds_toArray, List.set_cons_zero, List.set_cons_succ, i64_w, i32_w]
                    rfl
                  refine pure_ (i := 24) (N := some 99) (v := undef) (a' := ?_) #[true, true, true, true, true, true, true, true, true, true, true, true, true, true, true, true, true, true, true, true, true, true, true, true, true, false, false] rfl rfl (by kernel_rfl) (fun _ _ _ h => h) (Or.inr ⟨by rfl, rfl⟩) ?_ ?_
                  rotate_left
                  · simp only [Act.put, List.setIfInBounds_toArray, List.set_cons_zero, List.set_cons_succ, i64_w, i32_w]
                    rfl
                  refine pure_ (i := 25) (N := some 100) (v := ?_) (a' := ?_) #[true, true, true, true, true, true, true, true, true, true, true, true, true, true, true, true, true, true, true, true, true, true, true, true, true, true, false] rfl rfl (by kernel_rfl) (fun _ _ _ h => h) (Or.inl ⟨by rfl, ?_⟩) ?_ ?_
                  rotate_left
                  · intro w'
                    go_simp
                    with_reducible rfl
                  rotate_left
                  · simp only [Act.put, List.setIfInBounds_toArray, List.set_cons_zero, List.set_cons_succ, i64_w, i32_w]
                    rfl
                  refine pure_ (i := 26) (N := some 101) (v := ?_) (a' := ?_) #[true, true, true, true, true, true, true, true, true, true, true, true, true, true, true, true, true, true, true, true, true, true, true, true, true, true, true] rfl rfl (by kernel_rfl) (fun _ _ _ h => h) (Or.inl ⟨by rfl, ?_⟩) ?_ ?_
                  rotate_left
                  · intro w'
                    go_simp
                    with_reducible rfl
                  rotate_left
                  · simp only [Act.put, List.setIfInBounds_toArray, List.set_cons_zero, List.set_cons_succ, i64_w, i32_w]
                    rfl
                  refine done_ (by kernel_rfl) ?_
                  go_wp2_with fail
                  go_roundw
                  case rel => exact .mk (q + 1) (by rw [HWq.out]) (by omega) (below_then HBq.out HBq.out.size HB5.out)
                  case measure => rw [HWq.out]; simp [intOf]; omega
                · obtain ⟨q1, hq1⟩ : ∃ q1, q = q1 + 1 := ⟨q - 1, by omega⟩
                  have HQ1 := Aside0.mk hq1
                  have hg0 : decide (0 < q) = true := decide_eq_true (by omega)
                  have hg1 : decide ((0 : Int) < (q : Int)) = true := decide_eq_true (by omega)
                  have hwq : wrap64 ((q : Int) - 1) = (q1 : Int) := by
                    have := HM2.out
                    rw [show (q : Int) - 1 = (q1 : Int) by omega]
                    unfold wrap64
                    omega
                  have hq1l : (q1 : Int) < (ls.length : Int) := by omega
                  have h1l : q1 < ls.length := by omega
                  have HRis := Aside0.mk (show Op.bytesLess (bs (ls.getD q1 [])).toList (bs t).toList = true by
                    rw [less_ts, HT.out]
                    exact decide_eq_true (rises_at HL2.out (by omega) hlt))
                  clear hq0 hq1
                  have HAt := Aside0.mk (fun (w' : World) (hb : Below w3.heap.size w3 w') => (by
                    obtain ⟨ad3, e3, hc3⟩ := at_text (Kd.C_below HR3.out hb) q1 h1l
                    obtain rfl := Option.some.inj e3
                    exact hc3 : w'.cell? (ad2.add q1) = some (.string (bs (ls.getD q1 [])))))
                  clear h1l
                  generalize ls.getD q1 [] = t1 at *
                  have hrs := HRis.out
                  have hc1 := HAt.out _ HBk.out
                  clear HRis
                  go_wp2_with fail
                  refine start_ (n := 27) (S := fun w' => w'.cell? (ad2.add q1) = some (.string (bs t1)) ∧ w'.cell? (ad2.add q) = some (.string (bs t))) (ds := []) #[false, false, false, false, false, false, false, false, false, false, false, false, false, false, false, false, false, false, false, false, false, false, false, false, false, false, false] (by kernel_rfl) rfl rfl ⟨hc1, hc2⟩ (fun hHeld => ?_)
                  refine pure_ (i := 0) (N := some 75) (v := ?_) (a' := ?_) #[true, false, false, false, false, false, false, false, false, false, false, false, false, false, false, false, false, false, false, false, false, false, false, false, false, false, false] rfl rfl (by kernel_rfl) (fun _ _ _ h => h) (Or.inl ⟨by rfl, ?_⟩) ?_ ?_
                  rotate_left
                  · intro w'
                    go_simp
                    with_reducible rfl
                  rotate_left
                  · simp only [Act.put, List.setIfInBounds_toArray, List.set_cons_zero, List.set_cons_succ, i64_w, i32_w]
                    rfl
                  refine pure_ (i := 1) (N := some 76) (v := ?_) (a' := ?_) #[true, true, false, false, false, false, false, false, false, false, false, false, false, false, false, false, false, false, false, false, false, false, false, false, false, false, false] rfl rfl (by kernel_rfl) (fun _ _ _ h => h) (Or.inl ⟨by rfl, ?_⟩) ?_ ?_
                  rotate_left
                  · intro w'
                    go_simp
                    with_reducible rfl
                  rotate_left
                  · simp only [Act.put, List.setIfInBounds_toArray, List.set_cons_zero, List.set_cons_succ, i64_w, i32_w]
                    rfl
                  refine pure_ (i := 2) (N := some 77) (v := ?_) (a' := ?_) #[true, true, true, false, false, false, false, false, false, false, false, false, false, false, false, false, false, false, false, false, false, false, false, false, false, false, false] rfl rfl (by kernel_rfl) (fun _ _ _ h => h) (Or.inl ⟨by rfl, ?_⟩) ?_ ?_
                  rotate_left
                  · intro w'
                    go_simp
                    with_reducible rfl
                  rotate_left
                  · simp only [Act.put, List.setIfInBounds_toArray, List.set_cons_zero, List.set_cons_succ, i64_w, i32_w]
                    rfl
                  refine pure_ (i := 3) (N := some 78) (v := ?_) (a' := ?_) #[true, true, true, true, false, false, false, false, false, false, false, false, false, false, false, false, false, false, false, false, false, false, false, false, false, false, false] rfl rfl (by kernel_rfl) (fun _ _ _ h => h) (Or.inl ⟨by rfl, ?_⟩) ?_ ?_
                  rotate_left
                  · intro w'
                    go_simp
                    with_reducible rfl
                  rotate_left
                  · simp only [Act.put, List.setIfInBounds_toArray, List.set_cons_zero, List.set_cons_succ, i64_w, i32_w]
                    rfl
                  refine pure_ (i := 4) (N := some 79) (v := ?_) (a' := ?_) #[true, true, true, true, true, false, false, false, false, false, false, false, false, false, false, false, false, false, false, false, false, false, false, false, false, false, false] rfl rfl (by kernel_rfl) (fun _ _ _ h => h) (Or.inl ⟨by rfl, ?_⟩) ?_ ?_
                  rotate_left
                  · intro w'
                    go_simp
                    with_reducible rfl
                  rotate_left
                  · simp only [Act.put, List.setIfInBounds_toArray, List.set_cons_zero, List.set_cons_succ, i64_w, i32_w]
                    rfl
                  refine pure_ (i := 5) (N := some 80) (v := ?_) (a' := ?_) #[true, true, true, true, true, true, false, false, false, false, false, false, false, false, false, false, false, false, false, false, false, false, false, false, false, false, false] rfl rfl (by kernel_rfl) (fun _ _ _ h => h) (Or.inl ⟨by rfl, ?_⟩) ?_ ?_
                  rotate_left
                  · intro w'
                    go_simp
                    with_reducible rfl
                  rotate_left
                  · simp only [Act.put, List.setIfInBounds_toArray, List.set_cons_zero, List.set_cons_succ, i64_w, i32_w]
                    rfl
                  refine pure_ (i := 7) (N := some 82) (v := ?_) (a' := ?_) #[true, true, true, true, true, true, false, true, false, false, false, false, false, false, false, false, false, false, false, false, false, false, false, false, false, false, false] rfl rfl (by kernel_rfl) (fun _ _ _ h => h) (Or.inl ⟨by rfl, ?_⟩) ?_ ?_
                  rotate_left
                  · intro w'
                    go_simp
                    with_reducible rfl
                  rotate_left
                  · simp only [Act.put, List.setIfInBounds_toArray, List.set_cons_zero, List.set_cons_succ, i64_w, i32_w]
                    rfl
                  refine take_ (i := 6) (N := some 81) (v := ?_) (a' := ?_) #[true, true, true, true, true, true, true, true, false, false, false, false, false, false, false, false, false, false, false, false, false, false, false, false, false, false, false] rfl rfl (by kernel_rfl) (fun _ _ _ h => h) (Or.inl ⟨by rfl, ?_⟩) hHeld ?_ ?_
                  rotate_left
                  · rintro w' ⟨s0, s1⟩
                    go_simp
                    with_reducible rfl
                  rotate_left
                  · simp only [Act.put, List.setIfInBounds_toArray, List.set_cons_zero, List.set_cons_succ, i64_w, i32_w]
                    rfl
                  refine one_ (i := 8) (N := some 83) #[true, true, true, true, true, true, true, true, true, false, false, false, false, false, false, false, false, false, false, false, false, false, false, false, false, false, false] rfl rfl (by kernel_rfl) (by decide) (fun K hK => ?_)
                  refine goes_ Try.func22 (by kernel_rfl) rfl #[.string (bs t), .string (bs pre)] (by rfl) rfl rfl (by simp only [List.map_toArray, List.map_cons, List.map_nil]; rfl) ?_
                  with_reducible refine (P.gristmillref12_Begins.calls (bs t) (bs pre) true _ HBeg.out).mono ?_
                  rintro e w5 ⟨rfl, hdr⟩
                  refine ⟨_, rfl, ?_⟩
                  have HB5 := Aside0.mk (below_then (below_drew HBi.out) HBi.out.size hdr.below)
                  clear hdr
                  obtain ⟨ad3, e3, hc3⟩ := at_text (Kd.C_below HR3.out (below_then HBq.out HBq.out.size HB5.out)) q hlt
                  obtain rfl := Option.some.inj e3
                  rw [← HT.out] at hc3
                  clear e3
                  refine hK.out _ _ ⟨(HAt.out _ (below_then HBq.out HBq.out.size HB5.out)), hc3⟩ (fun hHeld => ?_)
                  clear hK K
                  refine norm_ (a' := ?_) ?_ ?_
                  rotate_left
                  · show Act.put _ (some 83) _ = _
                    simp only [Act.put, List.setIfInBounds_toArray, List.set_cons_zero, List.set_cons_succ, i64_w, i32_w]
                    rfl
                  refine pure_ (i := 9) (N := some 84) (v := ?_) (a' := ?_) #[true, true, true, true, true, true, true, true, true, true, false, false, false, false, false, false, false, false, false, false, false, false, false, false, false, false, false] rfl rfl (by kernel_rfl) (fun _ _ _ h => h) (Or.inl ⟨by rfl, ?_⟩) ?_ ?_
                  rotate_left
                  · intro w'
                    go_simp
                    with_reducible rfl
                  rotate_left
                  · simp only [Act.put, List.setIfInBounds_toArray, List.set_cons_zero, List.set_cons_succ, i64_w, i32_w]
                    rfl
                  refine pure_ (i := 10) (N := some 85) (v := ?_) (a' := ?_) #[true, true, true, true, true, true, true, true, true, true, true, false, false, false, false, false, false, false, false, false, false, false, false, false, false, false, false] rfl rfl (by kernel_rfl) (fun _ _ _ h => h) (Or.inl ⟨by rfl, ?_⟩) ?_ ?_
                  rotate_left
                  · intro w'
                    go_simp
                    with_reducible rfl
                  rotate_left
                  · simp only [Act.put, List.setIfInBounds_toArray, List.set_cons_zero, List.set_cons_succ, i64_w, i32_w]
                    rfl
                  refine pure_ (i := 11) (N := some 86) (v := ?_) (a' := ?_) #[true, true, true, true, true, true, true, true, true, true, true, true, false, false, false, false, false, false, false, false, false, false, false, false, false, false, false] rfl rfl (by kernel_rfl) (fun _ _ _ h => h) (Or.inl ⟨by rfl, ?_⟩) ?_ ?_
                  rotate_left
                  · intro w'
                    go_simp
                    with_reducible rfl
                  rotate_left
                  · simp only [Act.put, List.setIfInBounds_toArray, List.set_cons_zero, List.set_cons_succ, i64_w, i32_w]
                    rfl
                  refine pure_ (i := 12) (N := some 87) (v := ?_) (a' := ?_) #[true, true, true, true, true, true, true, true, true, true, true, true, true, false, false, false, false, false, false, false, false, false, false, false, false, false, false] rfl rfl (by kernel_rfl) (fun _ _ _ h => h) (Or.inl ⟨by rfl, ?_⟩) ?_ ?_
                  rotate_left
                  · intro w'
                    go_simp
                    with_reducible rfl
                  rotate_left
                  · simp only [Act.put, List.setIfInBounds_toArray, List.set_cons_zero, List.set_cons_succ, i64_w, i32_w]
                    rfl
                  refine pure_ (i := 13) (N := some 88) (v := ?_) (a' := ?_) #[true, true, true, true, true, true, true, true, true, true, true, true, true, true, false, false, false, false, false, false, false, false, false, false, false, false, false] rfl rfl (by kernel_rfl) (fun _ _ _ h => h) (Or.inl ⟨by rfl, ?_⟩) ?_ ?_
                  rotate_left
                  · intro w'
                    go_simp
                    with_reducible rfl
                  rotate_left
                  · simp only [Act.put, List.setIfInBounds_toArray, List.set_cons_zero, List.set_cons_succ, i64_w, i32_w]
                    rfl
                  refine pure_ (i := 14) (N := some 89) (v := ?_) (a' := ?_) #[true, true, true, true, true, true, true, true, true, true, true, true, true, true, true, false, false, false, false, false, false, false, false, false, false, false, false] rfl rfl (by kernel_rfl) (fun _ _ _ h => h) (Or.inl ⟨by rfl, ?_⟩) ?_ ?_
                  rotate_left
                  · intro w'
                    go_simp
                    with_reducible rfl
                  rotate_left
                  · simp only [Act.put, List.setIfInBounds_toArray, List.set_cons_zero, List.set_cons_succ, i64_w, i32_w]
                    rfl
                  refine pure_ (i := 15) (N := some 90) (v := ?_) (a' := ?_) #[true, true, true, true, true, true, true, true, true, true, true, true, true, true, true, true, false, false, false, false, false, false, false, false, false, false, false] rfl rfl (by kernel_rfl) (fun _ _ _ h => h) (Or.inl ⟨by rfl, ?_⟩) ?_ ?_
                  rotate_left
                  · intro w'
                    go_simp
                    with_reducible rfl
                  rotate_left
                  · simp only [Act.put, List.setIfInBounds_toArray, List.set_cons_zero, List.set_cons_succ, i64_w, i32_w]
                    rfl
                  refine pure_ (i := 16) (N := some 91) (v := ?_) (a' := ?_) #[true, true, true, true, true, true, true, true, true, true, true, true, true, true, true, true, true, false, false, false, false, false, false, false, false, false, false] rfl rfl (by kernel_rfl) (fun _ _ _ h => h) (Or.inl ⟨by rfl, ?_⟩) ?_ ?_
                  rotate_left
                  · intro w'
                    go_simp
                    with_reducible rfl
                  rotate_left
                  · simp only [Act.put, List.setIfInBounds_toArray, List.set_cons_zero, List.set_cons_succ, i64_w, i32_w]
                    rfl
                  refine pure_ (i := 17) (N := some 92) (v := ?_) (a' := ?_) #[true, true, true, true, true, true, true, true, true, true, true, true, true, true, true, true, true, true, false, false, false, false, false, false, false, false, false] rfl rfl (by kernel_rfl) (fun _ _ _ h => h) (Or.inl ⟨by rfl, ?_⟩) ?_ ?_
                  rotate_left
                  · intro w'
                    go_simp
                    with_reducible rfl
                  rotate_left
                  · simp only [Act.put, List.setIfInBounds_toArray, List.set_cons_zero, List.set_cons_succ, i64_w, i32_w]
                    rfl
                  refine pure_ (i := 18) (N := some 93) (v := ?_) (a' := ?_) #[true, true, true, true, true, true, true, true, true, true, true, true, true, true, true, true, true, true, true, false, false, false, false, false, false, false, false] rfl rfl (by kernel_rfl) (fun _ _ _ h => h) (Or.inl ⟨by rfl, ?_⟩) ?_ ?_
                  rotate_left
                  · intro w'
                    go_simp
                    with_reducible rfl
                  rotate_left
                  · simp only [Act.put, List.setIfInBounds_toArray, List.set_cons_zero, List.set_cons_succ, i64_w, i32_w]
                    rfl
                  refine pure_ (i := 20) (N := some 95) (v := ?_) (a' := ?_) #[true, true, true, true, true, true, true, true, true, true, true, true, true, true, true, true, true, true, true, false, true, false, false, false, false, false, false] rfl rfl (by kernel_rfl) (fun _ _ _ h => h) (Or.inl ⟨by rfl, ?_⟩) ?_ ?_
                  rotate_left
                  · intro w'
                    go_simp
                    with_reducible rfl
                  rotate_left
                  · simp only [Act.put, List.setIfInBounds_toArray, List.set_cons_zero, List.set_cons_succ, i64_w, i32_w]
                    rfl
                  refine pure_ (i := 21) (N := some 96) (v := ?_) (a' := ?_) #[true, true, true, true, true, true, true, true, true, true, true, true, true, true, true, true, true, true, true, false, true, true, false, false, false, false, false] rfl rfl (by kernel_rfl) (fun _ _ _ h => h) (Or.inl ⟨by rfl, ?_⟩) ?_ ?_
                  rotate_left
                  · intro w'
                    go_simp
                    with_reducible rfl
                  rotate_left
                  · simp only [Act.put, List.setIfInBounds_toArray, List.set_cons_zero, List.set_cons_succ, i64_w, i32_w]
                    rfl
                  refine pure_ (i := 22) (N := some 97) (v := ?_) (a' := ?_) #[true, true, true, true, true, true, true, true, true, true, true, true, true, true, true, true, true, true, true, false, true, true, true, false, false, false, false] rfl rfl (by kernel_rfl) (fun _ _ _ h => h) (Or.inl ⟨by rfl, ?_⟩) ?_ ?_
                  rotate_left
                  · intro w'
                    go_simp
                    with_reducible rfl
                  rotate_left
                  · simp only [Act.put, List.setIfInBounds_toArray, List.set_cons_zero, List.set_cons_succ, i64_w, i32_w]
                    rfl
                  refine take_ (i := 19) (N := some 94) (v := ?_) (a' := ?_) #[true, true, true, true, true, true, true, true, true, true, true, true, true, true, true, true, true, true, true, true, true, true, true, false, false, false, false] rfl rfl (by kernel_rfl) (fun _ _ _ h => h) (Or.inl ⟨by rfl, ?_⟩) hHeld ?_ ?_
                  rotate_left
                  · rintro w' ⟨s0, s1⟩
                    go_simp
                    with_reducible rfl
                  rotate_left
                  · simp only [Act.put, List.setIfInBounds_toArray, List.set_cons_zero, List.set_cons_succ, i64_w, i32_w]
                    rfl
                  refine take_ (i := 23) (N := some 98) (v := ?_) (a' := ?_) #[true, true, true, true, true, true, true, true, true, true, true, true, true, true, true, true, true, true, true, true, true, true, true, true, false, false, false] rfl rfl (by kernel_rfl) (fun _ _ _ h => h) (Or.inl ⟨by rfl, ?_⟩) hHeld ?_ ?_
                  rotate_left
                  · rintro w' ⟨s0, s1⟩
                    go_simp
                    with_reducible rfl
                  rotate_left
                  · simp only [Act.put, List.setIfInBounds_toArray, List.set_cons_zero, List.set_cons_succ, i64_w, i32_w]
                    rfl
                  refine pure_ (i := 24) (N := some 99) (v := ?_) (a' := ?_) #[true, true, true, true, true, true, true, true, true, true, true, true, true, true, true, true, true, true, true, true, true, true, true, true, true, false, false] rfl rfl (by kernel_rfl) (fun _ _ _ h => h) (Or.inl ⟨by rfl, ?_⟩) ?_ ?_
                  rotate_left
                  · intro w'
                    go_simp
                    with_reducible rfl
                  rotate_left
                  · simp only [Act.put, List.setIfInBounds_toArray, List.set_cons_zero, List.set_cons_succ, i64_w, i32_w]
                    rfl
                  refine pure_ (i := 25) (N := some 100) (v := ?_) (a' := ?_) #[true, true, true, true, true, true, true, true, true, true, true, true, true, true, true, true, true, true, true, true, true, true, true, true, true, true, false] rfl rfl (by kernel_rfl) (fun _ _ _ h => h) (Or.inl ⟨by rfl, ?_⟩) ?_ ?_
                  rotate_left
                  · intro w'
                    go_simp
                    with_reducible rfl
                  rotate_left
                  · simp only [Act.put, List.setIfInBounds_toArray, List.set_cons_zero, List.set_cons_succ, i64_w, i32_w]
                    rfl
                  refine pure_ (i := 26) (N := some 101) (v := ?_) (a' := ?_) #[true, true, true, true, true, true, true, true, true, true, true, true, true, true, true, true, true, true, true, true, true, true, true, true, true, true, true] rfl rfl (by kernel_rfl) (fun _ _ _ h => h) (Or.inl ⟨by rfl, ?_⟩) ?_ ?_
                  rotate_left
                  · intro w'
                    go_simp
                    with_reducible rfl
                  rotate_left
                  · simp only [Act.put, List.setIfInBounds_toArray, List.set_cons_zero, List.set_cons_succ, i64_w, i32_w]
                    rfl
                  refine done_ (by kernel_rfl) ?_
                  go_wp2_with fail
                  go_roundw
                  case rel => exact .mk (q + 1) (by rw [HWq.out]) (by omega) (below_then HBq.out HBq.out.size HB5.out)
                  case measure => rw [HWq.out]; simp [intOf]; omega
          · obtain rfl : q = ls.length := by omega
            have hqi : ¬ (ls.length : Int) < (ls.length : Int) := by omega
            clear hlt hq
            have HB4 := Aside0.mk (below_then HB3.out HB3.out.size HBq.out)
            have HR4 := Aside0.mk (Kd.C_below HR3.out HBq.out)
            have HY4 := Aside0.mk (Kd.C_below HY3.out HBq.out)
            clear HR3 HY3 HBq HB3
            go_wp2_with fail
            obtain ⟨wB, hB⟩ : ∃ x, x = wr := ⟨_, rfl⟩
            subst hB
            go_loopw [14] (fun v14 w' => RelR ys.length wB v14 w') (fun v14 _ => ys.length - (intOf v14).toNat)
            case atStart => exact .mk 0 rfl (Nat.zero_le _) (Below.refl _ _)
            case round =>
              obtain ⟨k, rfl, hk, hb⟩ := hrel
              have HBk := Aside0.mk hb
              clear hb
              by_cases hkl : k < ys.length
              · have HWk := Aside0.mk (wrapS (k := k) (by have := HM1.out; omega))
                have hki : (k : Int) < (ys.length : Int) := by omega
                obtain ⟨ad1, rfl, hc1⟩ := at_text (Kd.C_below HY4.out HBk.out) k hkl
                have HAt := Aside0.mk (fun (w' : World) (hb : Below wB.heap.size wB w') => (by
                  obtain ⟨ad3, e3, hc3⟩ := at_text (Kd.C_below HY4.out hb) k hkl
                  obtain rfl := Option.some.inj e3
                  exact hc3 : w'.cell? (ad1.add k) = some (.string (bs (ys.getD k [])))))
                have HIn := Aside0.mk (show ys.getD k [] ∈ ys by rw [List.getD_eq_getElem?_getD, List.getElem?_eq_getElem hkl]; exact List.getElem_mem hkl)
                generalize ys.getD k [] = y at *
                have HBeg := Aside0.mk (begins_f y pre)
                have HTh := Aside0.mk (fun (h : begins y pre = true) => HL3.out y HIn.out h)
                generalize begins y pre = b at *
                go_wp2_with fail
                refine (P.gristmillref12_Begins.calls (bs y) (bs pre) b _ HBeg.out).mono ?_
                rintro e w5 ⟨rfl, hdr⟩
                have HB5 := Aside0.mk (below_then HBk.out HBk.out.size hdr.below)
                clear hdr hc1
                go_wp2_with fail
                go_loopw [15, 16] (fun v15 v16 w' => RelI (!b) ls y w5 v15 v16 w') (fun v15 v16 _ => ls.length - (intOf v16).toNat)
                case atStart => exact .mk 0 (by rw [anyT_0, Bool.or_false]) rfl (Nat.zero_le _) (Below.refl _ _)
                case round =>
                  obtain ⟨q, rfl, rfl, hq, hb⟩ := hrel
                  have HBi := Aside0.mk hb
                  have HBq := Aside0.mk (below_then HB5.out HB5.out.size hb)
                  clear hb
                  by_cases hlt : q < ls.length
                  · have hqi : (q : Int) < (ls.length : Int) := by omega
                    have HW := Aside0.mk (wrapS (k := q) (by have := HM2.out; omega))
                    obtain ⟨ad2, rfl, hc2⟩ := at_text (Kd.C_below HR4.out HBq.out) q hlt
                    have hc1 := HAt.out _ HBq.out
                    have HSucc := Aside0.mk (anyT_succ y hlt)
                    generalize ls.getD q [] = t at *
                    cases hany : (!b || anyT ls q y) with
                    | true =>
                      have HE := Aside0.mk (show (!b || anyT ls (q + 1) y) = true by rw [HSucc.out, ← Bool.or_assoc, hany]; rfl)
                      clear hany HSucc
                      go_wp2_with fail
                      go_quiet (fail)
                      go_wp2_with fail
                      go_roundw
                      case rel => exact .mk (q + 1) (by rw [HE.out]) (by rw [HW.out]) (by omega) (pw_below_drewN HBi.out _)
                      case measure => rw [HW.out]; simp [intOf]; omega
                    | false =>
                      have HE := Aside0.mk (show (!b || anyT ls (q + 1) y) = ((bs y).toList == (bs t).toList) by rw [HSucc.out, ← Bool.or_assoc, hany, Ext.eq_dec, bs_data, bs_data, Bool.false_or, Bool.eq_iff_iff, decide_eq_true_iff, decide_eq_true_iff]; exact eq_comm)
                      clear hany HSucc
                      go_wp2_with fail
                      go_quiet (fail)
                      go_wp2_with fail
                      go_roundw
                      case rel => exact .mk (q + 1) (by rw [HE.out]) (by rw [HW.out]) (by omega) (pw_below_drewN HBi.out _)
                      case measure => rw [HW.out]; simp [intOf]; omega
                  · obtain rfl : q = ls.length := by omega
                    have hqi : ¬ (ls.length : Int) < (ls.length : Int) := by omega
                    have hany : (!b || anyT ls ls.length y) = true := by
                      rw [anyT_all]
                      cases b with
                      | false => rfl
                      | true => exact decide_eq_true (HTh.out rfl)
                    rw [hany]
                    clear hany hlt hq
                    go_wp2_with fail
                    go_roundw
                    case rel => exact .mk (k + 1) (by rw [HWk.out]) (by omega) HBq.out
                    case measure => rw [HWk.out]; simp [intOf]; omega
              · obtain rfl : k = ys.length := by omega
                have hki : ¬ (ys.length : Int) < (ys.length : Int) := by omega
                clear hkl hk
                go_wp2_with fail
                go_ret
                exact ⟨rfl, below_then HB4.out HB4.out.size HBk.out⟩
    · have hii : ¬ (i : Int) < (names.length : Int) := by omega
      clear h1
      go_wp2_with fail
      refine (list_calls wr okd p s pre HD.out.dk (by have := HG.out.len; omega) (fun x hx => Nat.le_trans (HG.out.named x hx) (by decide))).mono ?_
      rintro e w3 ⟨v3, rfl, hr, hb⟩
      obtain ⟨A3, c3, rfl, hc3, hC3⟩ := Kd.R_reads hr
      have HR3 := Aside0.mk (show text.C w3 A3 (listS s pre).length (listS s pre) from hC3)
      obtain rfl : ys.length = n := HD.out.own.len
      have HY3 := Aside0.mk (show text.C w3 A ys.length ys from Own.reads eT_ok (HD.out.below hb).own)
      have HB3 := Aside0.mk (HD.out.below hb).bel
      have HL1 := Aside0.mk (fun t (h : t ∈ listS s pre) => (show t ∈ ys ∧ begins t pre = true from by
        have := (lists_mem HG.out.off HG.out.nd pre t).1 h
        exact ⟨(HG.out.mem t).1 this.1, this.2⟩))
      have HL2 := Aside0.mk (lists_rises HG.out.nd pre)
      have HL3 := Aside0.mk (fun t (h : t ∈ ys) (h2 : begins t pre = true) => (lists_mem HG.out.off HG.out.nd pre t).2 ⟨(HG.out.mem t).2 h, h2⟩)
      have HM1 := Aside0.mk (show ys.length < 1000 by have := HG.out.yn; omega)
      have HM2 := Aside0.mk (show (listS s pre).length < 1000 by have := HG.out.len; have := lists_len s pre; omega)
      generalize listS s pre = ls at *
      clear hr hb hc3 hC3 HD HG
      go_wp2_with fail
      go_loopw [11] (fun v11 w' => RelR ls.length w3 v11 w') (fun v11 _ => ls.length - (intOf v11).toNat)
      case atStart => exact .mk 0 rfl (Nat.zero_le _) (Below.refl _ _)
      case round =>
        obtain ⟨q, rfl, hq, hb⟩ := hrel
        have HBq := Aside0.mk hb
        clear hb
        by_cases hlt : q < ls.length
        · have HWq := Aside0.mk (wrapS (k := q) (by have := HM2.out; omega))
          have hqi : (q : Int) < (ls.length : Int) := by omega
          go_wp2_with fail
          obtain ⟨wA, hA⟩ : ∃ x, x = wr := ⟨_, rfl⟩
          subst hA
          obtain ⟨t, ht⟩ : ∃ t, t = ls.getD q [] := ⟨_, rfl⟩
          have HT := Aside0.mk ht
          clear ht
          go_loopw [12, 13] (fun v12 v13 w' => RelI false ys t wA v12 v13 w') (fun v12 v13 _ => ys.length - (intOf v13).toNat)
          case atStart => exact .mk 0 rfl rfl (Nat.zero_le _) (Below.refl _ _)
          case round =>
            obtain ⟨k, rfl, rfl, hk, hb⟩ := hrel
            have HBi := Aside0.mk hb
            have HBk := Aside0.mk (below_then HBq.out HBq.out.size hb)
            clear hb
            by_cases hkl : k < ys.length
            · have hki : (k : Int) < (ys.length : Int) := by omega
              have HW := Aside0.mk (wrapS (k := k) (by have := HM1.out; omega))
              obtain ⟨ad1, rfl, hc1⟩ := at_text (Kd.C_below HY3.out HBk.out) k hkl
              obtain ⟨ad2, rfl, hc2⟩ := at_text (Kd.C_below HR3.out HBk.out) q hlt
              have HSucc := Aside0.mk (anyT_succ t hkl)
              rw [← HT.out] at hc2
              generalize ys.getD k [] = y at *
              cases hany : anyT ys k t with
              | true =>
                rw [hany] at HSucc
                simp only [Bool.false_or]
                go_wp2_with fail
                go_quiet (fail)
                go_wp2_with fail
                go_roundw
                case rel => exact .mk (k + 1) (by rw [HSucc.out]; rfl) (by rw [HW.out]) (by omega) (pw_below_drewN HBi.out _)
                case measure => rw [HW.out]; simp [intOf]; omega
              | false =>
                rw [hany] at HSucc
                simp only [Bool.false_or]
                go_wp2_with fail
                go_quiet (fail)
                go_wp2_with fail
                go_roundw
                case rel => exact .mk (k + 1) (by rw [HSucc.out, Ext.eq_dec]; rfl) (by rw [HW.out]) (by omega) (pw_below_drewN HBi.out _)
                case measure => rw [HW.out]; simp [intOf]; omega
            · obtain rfl : k = ys.length := by omega
              have hki : ¬ (ys.length : Int) < (ys.length : Int) := by omega
              have HIn := Aside0.mk (HL1.out t (by rw [HT.out, List.getD_eq_getElem?_getD, List.getElem?_eq_getElem hlt]; exact List.getElem_mem hlt))
              have hany : anyT ys ys.length t = true := by rw [anyT_all]; exact decide_eq_true HIn.out.1
              rw [hany]
              simp only [Bool.false_or]
              clear hany hkl hk
              have HBeg := Aside0.mk (show P.gristmillref12_Begins.f (bs t) (bs pre) = some true from (begins_f t pre).trans (congrArg some HIn.out.2))
              obtain ⟨ad2, rfl, hc2⟩ := at_text (Kd.C_below HR3.out HBk.out) q hlt
              rw [← HT.out] at hc2
              by_cases hq0 : q = 0
              · have hg0 : decide (0 < q) = false := decide_eq_false (by omega)
                have hg1 : decide ((0 : Int) < (q : Int)) = false := decide_eq_false (by omega)
                clear hq0
                go_wp2_with fail
                refine start_ (n := 27) (S := fun w' => w'.cell? (ad2.add q) = some (.string (bs t))) (ds := []) #[false, false, false, false, false, false, false, false, false, false, false, false, false, false, false, false, false, false, false, false, false, false, false, false, false, false, false] (by kernel_rfl) rfl rfl (hc2) (fun hHeld => ?_)
                refine pure_ (i := 0) (N := some 75) (v := ?_) (a' := ?_) #[true, false, false, false, false, false, false, false, false, false, false, false, false, false, false, false, false, false, false, false, false, false, false, false, false, false, false] rfl rfl (by kernel_rfl) (fun _ _ _ h => h) (Or.inl ⟨by rfl, ?_⟩) ?_ ?_
                rotate_left
                · intro w'
                  go_simp
                  with_reducible rfl
                rotate_left
                · simp only [Act.put, List.setIfInBounds_toArray, List.set_cons_zero, List.set_cons_succ, i64_w, i32_w]
                  rfl
                refine pure_ (i := 1) (N := some 76) (v := ?_) (a' := ?_) #[true, true, false, false, false, false, false, false, false, false, false, false, false, false, false, false, false, false, false, false, false, false, false, false, false, false, false] rfl rfl (by kernel_rfl) (fun _ _ _ h => h) (Or.inl ⟨by rfl, ?_⟩) ?_ ?_
                rotate_left
                · intro w'
                  go_simp
                  with_reducible rfl
                rotate_left
                · simp only [Act.put, List.setIfInBounds_toArray, List.set_cons_zero, List.set_cons_succ, i64_w, i32_w]
                  rfl
                refine pure_ (i := 2) (N := some 77) (v := ?_) (a' := ?_) #[true, true, true, false, false, false, false, false, false, false, false, false, false, false, false, false, false, false, false, false, false, false, false, false, false, false, false] rfl rfl (by kernel_rfl) (fun _ _ _ h => h) (Or.inl ⟨by rfl, ?_⟩) ?_ ?_
                rotate_left
                · intro w'
                  go_simp
                  with_reducible rfl
                rotate_left
                · simp only [Act.put, List.setIfInBounds_toArray, List.set_cons_zero, List.set_cons_succ, i64_w, i32_w]
                  rfl
                refine pure_ (i := 3) (N := some 78) (v := ?_) (a' := ?_) #[true, true, true, true, false, false, false, false, false, false, false, false, false, false, false, false, false, false, false, false, false, false, false, false, false, false, false] rfl rfl (by kernel_rfl) (fun _ _ _ h => h) (Or.inl ⟨by rfl, ?_⟩) ?_ ?_
                rotate_left
                · intro w'
                  go_simp
                  with_reducible rfl
                rotate_left
                · simp only [Act.put, List.setIfInBounds_toArray, List.set_cons_zero, List.set_cons_succ, i64_w, i32_w]
                  rfl
                refine pure_ (i := 4) (N := some 79) (v := ?_) (a' := ?_) #[true, true, true, true, true, false, false, false, false, false, false, false, false, false, false, false, false, false, false, false, false, false, false, false, false, false, false] rfl rfl (by kernel_rfl) (fun _ _ _ h => h) (Or.inl ⟨by rfl, ?_⟩) ?_ ?_
                rotate_left
                · intro w'
                  go_simp
                  with_reducible rfl
                rotate_left
                · simp only [Act.put, List.setIfInBounds_toArray, List.set_cons_zero, List.set_cons_succ, i64_w, i32_w]
                  rfl
                refine pure_ (i := 5) (N := some 80) (v := ?_) (a' := ?_) #[true, true, true, true, true, true, false, false, false, false, false, false, false, false, false, false, false, false, false, false, false, false, false, false, false, false, false] rfl rfl (by kernel_rfl) (fun _ _ _ h => h) (Or.inl ⟨by rfl, ?_⟩) ?_ ?_
                rotate_left
                · intro w'
                  go_simp
                  with_reducible rfl
                rotate_left
                · simp only [Act.put, List.setIfInBounds_toArray, List.set_cons_zero, List.set_cons_succ, i64_w, i32_w]
                  rfl
                refine pure_ (i := 7) (N := some 82) (v := ?_) (a' := ?_) #[true, true, true, true, true, true, false, true, false, false, false, false, false, false, false, false, false, false, false, false, false, false, false, false, false, false, false] rfl rfl (by kernel_rfl) (fun _ _ _ h => h) (Or.inl ⟨by rfl, ?_⟩) ?_ ?_
                rotate_left
                · intro w'
                  go_simp
                  with_reducible rfl
                rotate_left
                · simp only [Act.put, List.setIfInBounds_toArray, List.set_cons_zero, List.set_cons_succ, i64_w, i32_w]
                  rfl
                refine take_ (i := 6) (N := some 81) (v := ?_) (a' := ?_) #[true, true, true, true, true, true, true, true, false, false, false, false, false, false, false, false, false, false, false, false, false, false, false, false, false, false, false] rfl rfl (by kernel_rfl) (fun _ _ _ h => h) (Or.inl ⟨by rfl, ?_⟩) hHeld ?_ ?_
                rotate_left
                · intro w' s0
                  go_simp
                  with_reducible rfl
                rotate_left
                · simp only [Act.put, List.setIfInBounds_toArray, List.set_cons_zero, List.set_cons_succ, i64_w, i32_w]
                  rfl
                refine one_ (i := 8) (N := some 83) #[true, true, true, true, true, true, true, true, true, false, false, false, false, false, false, false, false, false, false, false, false, false, false, false, false, false, false] rfl rfl (by kernel_rfl) (by decide) (fun K hK => ?_)
                refine goes_ Try.func22 (by kernel_rfl) rfl #[.string (bs t), .string (bs pre)] (by rfl) rfl rfl (by simp only [List.map_toArray, List.map_cons, List.map_nil]; rfl) ?_
                with_reducible refine (P.gristmillref12_Begins.calls (bs t) (bs pre) true _ HBeg.out).mono ?_
                rintro e w5 ⟨rfl, hdr⟩
                refine ⟨_, rfl, ?_⟩
                have HB5 := Aside0.mk (below_then (below_drew HBi.out) HBi.out.size hdr.below)
                clear hdr
                obtain ⟨ad3, e3, hc3⟩ := at_text (Kd.C_below HR3.out (below_then HBq.out HBq.out.size HB5.out)) q hlt
                obtain rfl := Option.some.inj e3
                rw [← HT.out] at hc3
                clear e3
                refine hK.out _ _ (hc3) (fun hHeld => ?_)
                clear hK K
                refine norm_ (a' := ?_) ?_ ?_
                rotate_left
                · show Act.put _ (some 83) _ = _
                  simp only [Act.put, List.setIfInBounds_toArray, List.set_cons_zero, List.set_cons_succ, i64_w, i32_w]
                  rfl
                refine pure_ (i := 9) (N := some 84) (v := ?_) (a' := ?_) #[true, true, true, true, true, true, true, true, true, true, false, false, false, false, false, false, false, false, false, false, false, false, false, false, false, false, false] rfl rfl (by kernel_rfl) (fun _ _ _ h => h) (Or.inl ⟨by rfl, ?_⟩) ?_ ?_
                rotate_left
                · intro w'
                  go_simp
                  with_reducible rfl
                rotate_left
                · simp only [Act.put, List.setIfInBounds_toArray, List.set_cons_zero, List.set_cons_succ, i64_w, i32_w]
                  rfl
                refine pure_ (i := 10) (N := some 85) (v := ?_) (a' := ?_) #[true, true, true, true, true, true, true, true, true, true, true, false, false, false, false, false, false, false, false, false, false, false, false, false, false, false, false] rfl rfl (by kernel_rfl) (fun _ _ _ h => h) (Or.inl ⟨by rfl, ?_⟩) ?_ ?_
                rotate_left
                · intro w'
                  go_simp
                  with_reducible rfl
                rotate_left
                · simp only [Act.put, List.setIfInBounds_toArray, List.set_cons_zero, List.set_cons_succ, i64_w, i32_w]
                  rfl
                refine pure_ (i := 11) (N := some 86) (v := ?_) (a' := ?_) #[true, true, true, true, true, true, true, true, true, true, true, true, false, false, false, false, false, false, false, false, false, false, false, false, false, false, false] rfl rfl (by kernel_rfl) (fun _ _ _ h => h) (Or.inl ⟨by rfl, ?_⟩) ?_ ?_
                rotate_left
                · intro w'
                  go_simp
                  with_reducible rfl
                rotate_left
                · simp only [Act.put, List.setIfInBounds_toArray, List.set_cons_zero, List.set_cons_succ, i64_w, i32_w]
                  rfl
                refine pure_ (i := 12) (N := some 87) (v := ?_) (a' := ?_) #[true, true, true, true, true, true, true, true, true, true, true, true, true, false, false, false, false, false, false, false, false, false, false, false, false, false, false] rfl rfl (by kernel_rfl) (fun _ _ _ h => h) (Or.inl ⟨by rfl, ?_⟩) ?_ ?_
                rotate_left
                · intro w'
                  go_simp
                  with_reducible rfl
                rotate_left
                · simp only [Act.put, List.setIfInBounds_toArray, List.set_cons_zero, List.set_cons_succ, i64_w, i32_w]
                  rfl
                refine pure_ (i := 13) (N := some 88) (v := ?_) (a' := ?_) #[true, true, true, true, true, true, true, true, true, true, true, true, true, true, false, false, false, false, false, false, false, false, false, false, false, false, false] rfl rfl (by kernel_rfl) (fun _ _ _ h => h) (Or.inl ⟨by rfl, ?_⟩) ?_ ?_
                rotate_left
                · intro w'
                  go_simp
                  with_reducible rfl
                rotate_left
                · simp only [Act.put, List.setIfInBounds_toArray, List.set_cons_zero, List.set_cons_succ, i64_w, i32_w]
                  rfl
                refine pure_ (i := 14) (N := some 89) (v := ?_) (a' := ?_) #[true, true, true, true, true, true, true, true, true, true, true, true, true, true, true, false, false, false, false, false, false, false, false, false, false, false, false] rfl rfl (by kernel_rfl) (fun _ _ _ h => h) (Or.inl ⟨by rfl, ?_⟩) ?_ ?_
                rotate_left
                · intro w'
                  go_simp
                  with_reducible rfl
                rotate_left
                · simp only [Act.put, List.setIfInBounds_toArray, List.set_cons_zero, List.set_cons_succ, i64_w, i32_w]
                  rfl
                refine pure_ (i := 15) (N := some 90) (v := undef) (a' := ?_) #[true, true, true, true, true, true, true, true, true, true, true, true, true, true, true, true, false, false, false, false, false, false, false, false, false, false, false] rfl rfl (by kernel_rfl) (fun _ _ _ h => h) (Or.inr ⟨by rfl, rfl⟩) ?_ ?_
                rotate_left
                · simp only [Act.put, List.setIfInBounds_toArray, List.set_cons_zero, List.set_cons_succ, i64_w, i32_w]
                  rfl
                refine pure_ (i := 16) (N := some 91) (v := undef) (a' := ?_) #[true, true, true, true, true, true, true, true, true, true, true, true, true, true, true, true, true, false, false, false, false, false, false, false, false, false, false] rfl rfl (by kernel_rfl) (fun _ _ _ h => h) (Or.inr ⟨by rfl, rfl⟩) ?_ ?_
                rotate_left
                · simp only [Act.put, List.setIfInBounds_toArray, List.set_cons_zero, List.set_cons_succ, i64_w, i32_w]
                  rfl
                refine pure_ (i := 17) (N := some 92) (v := undef) (a' := ?_) #[true, true, true, true, true, true, true, true, true, true, true, true, true, true, true, true, true, true, false, false, false, false, false, false, false, false, false] rfl rfl (by kernel_rfl) (fun _ _ _ h => h) (Or.inr ⟨by rfl, rfl⟩) ?_ ?_
                rotate_left
                · simp only [Act.put, List.setIfInBounds_toArray, List.set_cons_zero, List.set_cons_succ, i64_w, i32_w]
                  rfl
                refine pure_ (i := 18) (N := some 93) (v := undef) (a' := ?_) #[true, true, true, true, true, true, true, true, true, true, true, true, true, true, true, true, true, true, true, false, false, false, false, false, false, false, false] rfl rfl (by kernel_rfl) (fun _ _ _ h => h) (Or.inr ⟨by rfl, rfl⟩) ?_ ?_
                rotate_left
                · simp only [Act.put, List.setIfInBounds_toArray, List.set_cons_zero, List.set_cons_succ, i64_w, i32_w]
                  rfl
                refine pure_ (i := 19) (N := some 94) (v := undef) (a' := ?_) #[true, true, true, true, true, true, true, true, true, true, true, true, true, true, true, true, true, true, true, true, false, false, false, false, false, false, false] rfl rfl (by kernel_rfl) (fun _ _ _ h => h) (Or.inr ⟨by rfl, rfl⟩) ?_ ?_
                rotate_left
                · simp only [Act.put, List.setIfInBounds_toArray, List.set_cons_zero, List.set_cons_succ, i64_w, i32_w]
                  rfl
                refine pure_ (i := 20) (N := some 95) (v := undef) (a' := ?_) #[true, true, true, true, true, true, true, true, true, true, true, true, true, true, true, true, true, true, true, true, true, false, false, false, false, false, false] rfl rfl (by kernel_rfl) (fun _ _ _ h => h) (Or.inr ⟨by rfl, rfl⟩) ?_ ?_
                rotate_left
                · simp only [Act.put, List.setIfInBounds_toArray, List.set_cons_zero, List.set_cons_succ, i64_w, i32_w]
                  rfl
                refine pure_ (i := 21) (N := some 96) (v := undef) (a' := ?_) #[true, true, true, true, true, true, true, true, true, true, true, true, true, true, true, true, true, true, true, true, true, true, false, false, false, false, false] rfl rfl (by kernel_rfl) (fun _ _ _ h => h) (Or.inr ⟨by rfl, rfl⟩) ?_ ?_
                rotate_left
                · simp only [Act.put, List.setIfInBounds_toArray, List.set_cons_zero, List.set_cons_succ, i64_w, i32_w]
                  rfl
                refine pure_ (i := 22) (N := some 97) (v := undef) (a' := ?_) #[true, true, true, true, true, true, true, true, true, true, true, true, true, true, true, true, true, true, true, true, true, true, true, false, false, false, false] rfl rfl (by kernel_rfl) (fun _ _ _ h => h) (Or.inr ⟨by rfl, rfl⟩) ?_ ?_
                rotate_left
                · simp only [Act.put, List.setIfInBounds_toArray, List.set_cons_zero, List.set_cons_succ, i64_w, i32_w]
                  rfl
                refine pure_ (i := 23) (N := some 98) (v := undef) (a' := ?_) #[true, true, true, true, true, true, true, true, true, true, true, true, true, true, true, true, true, true, true, true, true, true, true, true, false, false, false] rfl rfl (by kernel_rfl) (fun _ _ _ h => h) (Or.inr ⟨by rfl, rfl⟩) ?_ ?_
                rotate_left
                · simp only [Act.put, List.setIfInBounds_toArray, List.set_cons_zero, List.set_cons_succ, i64_w, i32_w]
                  rfl
                refine pure_ (i := 24) (N := some 99) (v := undef) (a' := ?_) #[true, true, true, true, true, true, true, true, true, true, true, true, true, true, true, true, true, true, true, true, true, true, true, true, true, false, false] rfl rfl (by kernel_rfl) (fun _ _ _ h => h) (Or.inr ⟨by rfl, rfl⟩) ?_ ?_
                rotate_left
                · simp only [Act.put, List.setIfInBounds_toArray, List.set_cons_zero, List.set_cons_succ, i64_w, i32_w]
                  rfl
                refine pure_ (i := 25) (N := some 100) (v := ?_) (a' := ?_) #[true, true, true, true, true, true, true, true, true, true, true, true, true, true, true, true, true, true, true, true, true, true, true, true, true, true, false] rfl rfl (by kernel_rfl) (fun _ _ _ h => h) (Or.inl ⟨by rfl, ?_⟩) ?_ ?_
                rotate_left
                · intro w'
                  go_simp
                  with_reducible rfl
                rotate_left
                · simp only [Act.put, List.setIfInBounds_toArray, List.set_cons_zero, List.set_cons_succ, i64_w, i32_w]
                  rfl
                refine pure_ (i := 26) (N := some 101) (v := ?_) (a' := ?_) #[true, true, true, true, true, true, true, true, true, true, true, true, true, true, true, true, true, true, true, true, true, true, true, true, true, true, true] rfl rfl (by kernel_rfl) (fun _ _ _ h => h) (Or.inl ⟨by rfl, ?_⟩) ?_ ?_
                rotate_left
                · intro w'
                  go_simp
                  with_reducible rfl
                rotate_left
                · simp only [Act.put, List.setIfInBounds_toArray, List.set_cons_zero, List.set_cons_succ, i64_w, i32_w]
                  rfl
                refine done_ (by kernel_rfl) ?_
                go_wp2_with fail
                go_roundw
                case rel => exact .mk (q + 1) (by rw [HWq.out]) (by omega) (below_then HBq.out HBq.out.size HB5.out)
                case measure => rw [HWq.out]; simp [intOf]; omega
              · obtain ⟨q1, hq1⟩ : ∃ q1, q = q1 + 1 := ⟨q - 1, by omega⟩
                have HQ1 := Aside0.mk hq1
                have hg0 : decide (0 < q) = true := decide_eq_true (by omega)
                have hg1 : decide ((0 : Int) < (q : Int)) = true := decide_eq_true (by omega)
                have hwq : wrap64 ((q : Int) - 1) = (q1 : Int) := by
                  have := HM2.out
                  rw [show (q : Int) - 1 = (q1 : Int) by omega]
                  unfold wrap64
                  omega
                have hq1l : (q1 : Int) < (ls.length : Int) := by omega
                have h1l : q1 < ls.length := by omega
                have HRis := Aside0.mk (show Op.bytesLess (bs (ls.getD q1 [])).toList (bs t).toList = true by
                  rw [less_ts, HT.out]
                  exact decide_eq_true (rises_at HL2.out (by omega) hlt))
                clear hq0 hq1
                have HAt := Aside0.mk (fun (w' : World) (hb : Below w3.heap.size w3 w') => (by
                  obtain ⟨ad3, e3, hc3⟩ := at_text (Kd.C_below HR3.out hb) q1 h1l
                  obtain rfl := Option.some.inj e3
                  exact hc3 : w'.cell? (ad2.add q1) = some (.string (bs (ls.getD q1 [])))))
                clear h1l
                generalize ls.getD q1 [] = t1 at *
                have hrs := HRis.out
                have hc1 := HAt.out _ HBk.out
                clear HRis
                go_wp2_with fail
                refine start_ (n := 27) (S := fun w' => w'.cell? (ad2.add q1) = some (.string (bs t1)) ∧ w'.cell? (ad2.add q) = some (.string (bs t))) (ds := []) #[false, false, false, false, false, false, false, false, false, false, false, false, false, false, false, false, false, false, false, false, false, false, false, false, false, false, false] (by kernel_rfl) rfl rfl ⟨hc1, hc2⟩ (fun hHeld => ?_)
                refine pure_ (i := 0) (N := some 75) (v := ?_) (a' := ?_) #[true, false, false, false, false, false, false, false, false, false, false, false, false, false, false, false, false, false, false, false, false, false, false, false, false, false, false] rfl rfl (by kernel_rfl) (fun _ _ _ h => h) (Or.inl ⟨by rfl, ?_⟩) ?_ ?_
                rotate_left
                · intro w'
                  go_simp
                  with_reducible rfl
                rotate_left
                · simp only [Act.put, List.setIfInBounds_toArray, List.set_cons_zero, List.set_cons_succ, i64_w, i32_w]
                  rfl
                refine pure_ (i := 1) (N := some 76) (v := ?_) (a' := ?_) #[true, true, false, false, false, false, false, false, false, false, false, false, false, false, false, false, false, false, false, false, false, false, false, false, false, false, false] rfl rfl (by kernel_rfl) (fun _ _ _ h => h) (Or.inl ⟨by rfl, ?_⟩) ?_ ?_
                rotate_left
                · intro w'
                  go_simp
                  with_reducible rfl
                rotate_left
                · simp only [Act.put, List.setIfInBounds_toArray, List.set_cons_zero, List.set_cons_succ, i64_w, i32_w]
                  rfl
                refine pure_ (i := 2) (N := some 77) (v := ?_) (a' := ?_) #[true, true, true, false, false, false, false, false, false, false, false, false, false, false, false, false, false, false, false, false, false, false, false, false, false, false, false] rfl rfl (by kernel_rfl) (fun _ _ _ h => h) (Or.inl ⟨by rfl, ?_⟩) ?_ ?_
                rotate_left
                · intro w'
                  go_simp
                  with_reducible rfl
                rotate_left
                · simp only [Act.put, List.setIfInBounds_toArray, List.set_cons_zero, List.set_cons_succ, i64_w, i32_w]
                  rfl
                refine pure_ (i := 3) (N := some 78) (v := ?_) (a' := ?_) #[true, true, true, true, false, false, false, false, false, false, false, false, false, false, false, false, false, false, false, false, false, false, false, false, false, false, false] rfl rfl (by kernel_rfl) (fun _ _ _ h => h) (Or.inl ⟨by rfl, ?_⟩) ?_ ?_
                rotate_left
                · intro w'
                  go_simp
                  with_reducible rfl
                rotate_left
                · simp only [Act.put, List.setIfInBounds_toArray, List.set_cons_zero, List.set_cons_succ, i64_w, i32_w]
                  rfl
                refine pure_ (i := 4) (N := some 79) (v := ?_) (a' := ?_) #[true, true, true, true, true, false, false, false, false, false, false, false, false, false, false, false, false, false, false, false, false, false, false, false, false, false, false] rfl rfl (by kernel_rfl) (fun _ _ _ h => h) (Or.inl ⟨by rfl, ?_⟩) ?_ ?_
                rotate_left
                · intro w'
                  go_simp
                  with_reducible rfl
                rotate_left
                · simp only [Act.put, List.setIfInBounds_toArray, List.set_cons_zero, List.set_cons_succ, i64_w, i32_w]
                  rfl
                refine pure_ (i := 5) (N := some 80) (v := ?_) (a' := ?_) #[true, true, true, true, true, true, false, false, false, false, false, false, false, false, false, false, false, false, false, false, false, false, false, false, false, false, false] rfl rfl (by kernel_rfl) (fun _ _ _ h => h) (Or.inl ⟨by rfl, ?_⟩) ?_ ?_
                rotate_left
                · intro w'
                  go_simp
                  with_reducible rfl
                rotate_left
                · simp only [Act.put, List.setIfInBounds_toArray, List.set_cons_zero, List.set_cons_succ, i64_w, i32_w]
                  rfl
                refine pure_ (i := 7) (N := some 82) (v := ?_) (a' := ?_) #[true, true, true, true, true, true, false, true, false, false, false, false, false, false, false, false, false, false, false, false, false, false, false, false, false, false, false] rfl rfl (by kernel_rfl) (fun _ _ _ h => h) (Or.inl ⟨by rfl, ?_⟩) ?_ ?_
                rotate_left
                · intro w'
                  go_simp
                  with_reducible rfl
                rotate_left
                · simp only [Act.put, List.setIfInBounds_toArray, List.set_cons_zero, List.set_cons_succ, i64_w, i32_w]
                  rfl
                refine take_ (i := 6) (N := some 81) (v := ?_) (a' := ?_) #[true, true, true, true, true, true, true, true, false, false, false, false, false, false, false, false, false, false, false, false, false, false, false, false, false, false, false] rfl rfl (by kernel_rfl) (fun _ _ _ h => h) (Or.inl ⟨by rfl, ?_⟩) hHeld ?_ ?_
                rotate_left
                · rintro w' ⟨s0, s1⟩
                  go_simp
                  with_reducible rfl
                rotate_left
                · simp only [Act.put, List.setIfInBounds_toArray, List.set_cons_zero, List.set_cons_succ, i64_w, i32_w]
                  rfl
                refine one_ (i := 8) (N := some 83) #[true, true, true, true, true, true, true, true, true, false, false, false, false, false, false, false, false, false, false, false, false, false, false, false, false, false, false] rfl rfl (by kernel_rfl) (by decide) (fun K hK => ?_)
                refine goes_ Try.func22 (by kernel_rfl) rfl #[.string (bs t), .string (bs pre)] (by rfl) rfl rfl (by simp only [List.map_toArray, List.map_cons, List.map_nil]; rfl) ?_
                with_reducible refine (P.gristmillref12_Begins.calls (bs t) (bs pre) true _ HBeg.out).mono ?_
                rintro e w5 ⟨rfl, hdr⟩
                refine ⟨_, rfl, ?_⟩
                have HB5 := Aside0.mk (below_then (below_drew HBi.out) HBi.out.size hdr.below)
                clear hdr
                obtain ⟨ad3, e3, hc3⟩ := at_text (Kd.C_below HR3.out (below_then HBq.out HBq.out.size HB5.out)) q hlt
                obtain rfl := Option.some.inj e3
                rw [← HT.out] at hc3
                clear e3
                refine hK.out _ _ ⟨(HAt.out _ (below_then HBq.out HBq.out.size HB5.out)), hc3⟩ (fun hHeld => ?_)
                clear hK K
                refine norm_ (a' := ?_) ?_ ?_
                rotate_left
                · show Act.put _ (some 83) _ = _
                  simp only [Act.put, List.setIfInBounds_toArray, List.set_cons_zero, List.set_cons_succ, i64_w, i32_w]
                  rfl
                refine pure_ (i := 9) (N := some 84) (v := ?_) (a' := ?_) #[true, true, true, true, true, true, true, true, true, true, false, false, false, false, false, false, false, false, false, false, false, false, false, false, false, false, false] rfl rfl (by kernel_rfl) (fun _ _ _ h => h) (Or.inl ⟨by rfl, ?_⟩) ?_ ?_
                rotate_left
                · intro w'
                  go_simp
                  with_reducible rfl
                rotate_left
                · simp only [Act.put, List.setIfInBounds_toArray, List.set_cons_zero, List.set_cons_succ, i64_w, i32_w]
                  rfl
                refine pure_ (i := 10) (N := some 85) (v := ?_) (a' := ?_) #[true, true, true, true, true, true, true, true, true, true, true, false, false, false, false, false, false, false, false, false, false, false, false, false, false, false, false] rfl rfl (by kernel_rfl) (fun _ _ _ h => h) (Or.inl ⟨by rfl, ?_⟩) ?_ ?_
                rotate_left
                · intro w'
                  go_simp
                  with_reducible rfl
                rotate_left
                · simp only [Act.put, List.setIfInBounds_toArray, List.set_cons_zero, List.set_cons_succ, i64_w, i32_w]
                  rfl
                refine pure_ (i := 11) (N := some 86) (v := ?_) (a' := ?_) #[true, true, true, true, true, true, true, true, true, true, true, true, false, false, false, false, false, false, false, false, false, false, false, false, false, false, false] rfl rfl (by kernel_rfl) (fun _ _ _ h => h) (Or.inl ⟨by rfl, ?_⟩) ?_ ?_
                rotate_left
                · intro w'
                  go_simp
                  with_reducible rfl
                rotate_left
                · simp only [Act.put, List.setIfInBounds_toArray, List.set_cons_zero, List.set_cons_succ, i64_w, i32_w]
                  rfl
                refine pure_ (i := 12) (N := some 87) (v := ?_) (a' := ?_) #[true, true, true, true, true, true, true, true, true, true, true, true, true, false, false, false, false, false, false, false, false, false, false, false, false, false, false] rfl rfl (by kernel_rfl) (fun _ _ _ h => h) (Or.inl ⟨by rfl, ?_⟩) ?_ ?_
                rotate_left
                · intro w'
                  go_simp
                  with_reducible rfl
                rotate_left
                · simp only [Act.put, List.setIfInBounds_toArray, List.set_cons_zero, List.set_cons_succ, i64_w, i32_w]
                  rfl
                refine pure_ (i := 13) (N := some 88) (v := ?_) (a' := ?_) #[true, true, true, true, true, true, true, true, true, true, true, true, true, true, false, false, false, false, false, false, false, false, false, false, false, false, false] rfl rfl (by kernel_rfl) (fun _ _ _ h => h) (Or.inl ⟨by rfl, ?_⟩) ?_ ?_
                rotate_left
                · intro w'
                  go_simp
                  with_reducible rfl
                rotate_left
                · simp only [Act.put, List.setIfInBounds_toArray, List.set_cons_zero, List.set_cons_succ, i64_w, i32_w]
                  rfl
                refine pure_ (i := 14) (N := some 89) (v := ?_) (a' := ?_) #[true, true, true, true, true, true, true, true, true, true, true, true, true, true, true, false, false, false, false, false, false, false, false, false, false, false, false] rfl rfl (by kernel_rfl) (fun _ _ _ h => h) (Or.inl ⟨by rfl, ?_⟩) ?_ ?_
                rotate_left
                · intro w'
                  go_simp
                  with_reducible rfl
                rotate_left
                · simp only [Act.put, List.setIfInBounds_toArray, List.set_cons_zero, List.set_cons_succ, i64_w, i32_w]
                  rfl
                refine pure_ (i := 15) (N := some 90) (v := ?_) (a' := ?_) #[true, true, true, true, true, true, true, true, true, true, true, true, true, true, true, true, false, false, false, false, false, false, false, false, false, false, false] rfl rfl (by kernel_rfl) (fun _ _ _ h => h) (Or.inl ⟨by rfl, ?_⟩) ?_ ?_
                rotate_left
                · intro w'
                  go_simp
                  with_reducible rfl
                rotate_left
                · simp only [Act.put, List.setIfInBounds_toArray, List.set_cons_zero, List.set_cons_succ, i64_w, i32_w]
                  rfl
                refine pure_ (i := 16) (N := some 91) (v := ?_) (a' := ?_) #[true, true, true, true, true, true, true, true, true, true, true, true, true, true, true, true, true, false, false, false, false, false, false, false, false, false, false] rfl rfl (by kernel_rfl) (fun _ _ _ h => h) (Or.inl ⟨by rfl, ?_⟩) ?_ ?_
                rotate_left
                · intro w'
                  go_simp
                  with_reducible rfl
                rotate_left
                · simp only [Act.put, List.setIfInBounds_toArray, List.set_cons_zero, List.set_cons_succ, i64_w, i32_w]
                  rfl
                refine pure_ (i := 17) (N := some 92) (v := ?_) (a' := ?_) #[true, true, true, true, true, true, true, true, true, true, true, true, true, true, true, true, true, true, false, false, false, false, false, false, false, false, false] rfl rfl (by kernel_rfl) (fun _ _ _ h => h) (Or.inl ⟨by rfl, ?_⟩) ?_ ?_
                rotate_left
                · intro w'
                  go_simp
                  with_reducible rfl
                rotate_left
                · simp only [Act.put, List.setIfInBounds_toArray, List.set_cons_zero, List.set_cons_succ, i64_w, i32_w]
                  rfl
                refine pure_ (i := 18) (N := some 93) (v := ?_) (a' := ?_) #[true, true, true, true, true, true, true, true, true, true, true, true, true, true, true, true, true, true, true, false, false, false, false, false, false, false, false] rfl rfl (by kernel_rfl) (fun _ _ _ h => h) (Or.inl ⟨by rfl, ?_⟩) ?_ ?_
                rotate_left
                · intro w'
                  go_simp
                  with_reducible rfl
                rotate_left
                · simp only [Act.put, List.setIfInBounds_toArray, List.set_cons_zero, List.set_cons_succ, i64_w, i32_w]
                  rfl
                refine pure_ (i := 20) (N := some 95) (v := ?_) (a' := ?_) #[true, true, true, true, true, true, true, true, true, true, true, true, true, true, true, true, true, true, true, false, true, false, false, false, false, false, false] rfl rfl (by kernel_rfl) (fun _ _ _ h => h) (Or.inl ⟨by rfl, ?_⟩) ?_ ?_
                rotate_left
                · intro w'
                  go_simp
                  with_reducible rfl
                rotate_left
                · simp only [Act.put, List.setIfInBounds_toArray, List.set_cons_zero, List.set_cons_succ, i64_w, i32_w]
                  rfl
                refine pure_ (i := 21) (N := some 96) (v := ?_) (a' := ?_) #[true, true, true, true, true, true, true, true, true, true, true, true, true, true, true, true, true, true, true, false, true, true, false, false, false, false, false] rfl rfl (by kernel_rfl) (fun _ _ _ h => h) (Or.inl ⟨by rfl, ?_⟩) ?_ ?_
                rotate_left
                · intro w'
                  go_simp
                  with_reducible rfl
                rotate_left
                · simp only [Act.put, List.setIfInBounds_toArray, List.set_cons_zero, List.set_cons_succ, i64_w, i32_w]
                  rfl
                refine pure_ (i := 22) (N := some 97) (v := ?_) (a' := ?_) #[true, true, true, true, true, true, true, true, true, true, true, true, true, true, true, true, true, true, true, false, true, true, true, false, false, false, false] rfl rfl (by kernel_rfl) (fun _ _ _ h => h) (Or.inl ⟨by rfl, ?_⟩) ?_ ?_
                rotate_left
                · intro w'
                  go_simp
                  with_reducible rfl
                rotate_left
                · simp only [Act.put, List.setIfInBounds_toArray, List.set_cons_zero, List.set_cons_succ, i64_w, i32_w]
                  rfl
                refine take_ (i := 19) (N := some 94) (v := ?_) (a' := ?_) #[true, true, true, true, true, true, true, true, true, true, true, true, true, true, true, true, true, true, true, true, true, true, true, false, false, false, false] rfl rfl (by kernel_rfl) (fun _ _ _ h => h) (Or.inl ⟨by rfl, ?_⟩) hHeld ?_ ?_
                rotate_left
                · rintro w' ⟨s0, s1⟩
                  go_simp
                  with_reducible rfl
                rotate_left
                · simp only [Act.put, List.setIfInBounds_toArray, List.set_cons_zero, List.set_cons_succ, i64_w, i32_w]
                  rfl
                refine take_ (i := 23) (N := some 98) (v := ?_) (a' := ?_) #[true, true, true, true, true, true, true, true, true, true, true, true, true, true, true, true, true, true, true, true, true, true, true, true, false, false, false] rfl rfl (by kernel_rfl) (fun _ _ _ h => h) (Or.inl ⟨by rfl, ?_⟩) hHeld ?_ ?_
                rotate_left
                · rintro w' ⟨s0, s1⟩
                  go_simp
                  with_reducible rfl
                rotate_left
                · simp only [Act.put, List.setIfInBounds_toArray, List.set_cons_zero, List.set_cons_succ, i64_w, i32_w]
                  rfl
                refine pure_ (i := 24) (N := some 99) (v := ?_) (a' := ?_) #[true, true, true, true, true, true, true, true, true, true, true, true, true, true, true, true, true, true, true, true, true, true, true, true, true, false, false] rfl rfl (by kernel_rfl) (fun _ _ _ h => h) (Or.inl ⟨by rfl, ?_⟩) ?_ ?_
                rotate_left
                · intro w'
                  go_simp
                  with_reducible rfl
                rotate_left
                · simp only [Act.put, List.setIfInBounds_toArray, List.set_cons_zero, List.set_cons_succ, i64_w, i32_w]
                  rfl
                refine pure_ (i := 25) (N := some 100) (v := ?_) (a' := ?_) #[true, true, true, true, true, true, true, true, true, true, true, true, true, true, true, true, true, true, true, true, true, true, true, true, true, true, false] rfl rfl (by kernel_rfl) (fun _ _ _ h => h) (Or.inl ⟨by rfl, ?_⟩) ?_ ?_
                rotate_left
                · intro w'
                  go_simp
                  with_reducible rfl
                rotate_left
                · simp only [Act.put, List.setIfInBounds_toArray, List.set_cons_zero, List.set_cons_succ, i64_w, i32_w]
                  rfl
                refine pure_ (i := 26) (N := some 101) (v := ?_) (a' := ?_) #[true, true, true, true, true, true, true, true, true, true, true, true, true, true, true, true, true, true, true, true, true, true, true, true, true, true, true] rfl rfl (by kernel_rfl) (fun _ _ _ h => h) (Or.inl ⟨by rfl, ?_⟩) ?_ ?_
                rotate_left
                · intro w'
                  go_simp
                  with_reducible rfl
                rotate_left
                · simp only [Act.put, List.setIfInBounds_toArray, List.set_cons_zero, List.set_cons_succ, i64_w, i32_w]
                  rfl
                refine done_ (by kernel_rfl) ?_
                go_wp2_with fail
                go_roundw
                case rel => exact .mk (q + 1) (by rw [HWq.out]) (by omega) (below_then HBq.out HBq.out.size HB5.out)
                case measure => rw [HWq.out]; simp [intOf]; omega
        · obtain rfl : q = ls.length := by omega
          have hqi : ¬ (ls.length : Int) < (ls.length : Int) := by omega
          clear hlt hq
          have HB4 := Aside0.mk (below_then HB3.out HB3.out.size HBq.out)
          have HR4 := Aside0.mk (Kd.C_below HR3.out HBq.out)
          have HY4 := Aside0.mk (Kd.C_below HY3.out HBq.out)
          clear HR3 HY3 HBq HB3
          go_wp2_with fail
          obtain ⟨wB, hB⟩ : ∃ x, x = wr := ⟨_, rfl⟩
          subst hB
          go_loopw [14] (fun v14 w' => RelR ys.length wB v14 w') (fun v14 _ => ys.length - (intOf v14).toNat)
          case atStart => exact .mk 0 rfl (Nat.zero_le _) (Below.refl _ _)
          case round =>
            obtain ⟨k, rfl, hk, hb⟩ := hrel
            have HBk := Aside0.mk hb
            clear hb
            by_cases hkl : k < ys.length
            · have HWk := Aside0.mk (wrapS (k := k) (by have := HM1.out; omega))
              have hki : (k : Int) < (ys.length : Int) := by omega
              obtain ⟨ad1, rfl, hc1⟩ := at_text (Kd.C_below HY4.out HBk.out) k hkl
              have HAt := Aside0.mk (fun (w' : World) (hb : Below wB.heap.size wB w') => (by
                obtain ⟨ad3, e3, hc3⟩ := at_text (Kd.C_below HY4.out hb) k hkl
                obtain rfl := Option.some.inj e3
                exact hc3 : w'.cell? (ad1.add k) = some (.string (bs (ys.getD k [])))))
              have HIn := Aside0.mk (show ys.getD k [] ∈ ys by rw [List.getD_eq_getElem?_getD, List.getElem?_eq_getElem hkl]; exact List.getElem_mem hkl)
              generalize ys.getD k [] = y at *
              have HBeg := Aside0.mk (begins_f y pre)
              have HTh := Aside0.mk (fun (h : begins y pre = true) => HL3.out y HIn.out h)
              generalize begins y pre = b at *
              go_wp2_with fail
              refine (P.gristmillref12_Begins.calls (bs y) (bs pre) b _ HBeg.out).mono ?_
              rintro e w5 ⟨rfl, hdr⟩
              have HB5 := Aside0.mk (below_then HBk.out HBk.out.size hdr.below)
              clear hdr hc1
              go_wp2_with fail
              go_loopw [15, 16] (fun v15 v16 w' => RelI (!b) ls y w5 v15 v16 w') (fun v15 v16 _ => ls.length - (intOf v16).toNat)
              case atStart => exact .mk 0 (by rw [anyT_0, Bool.or_false]) rfl (Nat.zero_le _) (Below.refl _ _)
              case round =>
                obtain ⟨q, rfl, rfl, hq, hb⟩ := hrel
                have HBi := Aside0.mk hb
                have HBq := Aside0.mk (below_then HB5.out HB5.out.size hb)
                clear hb
                by_cases hlt : q < ls.length
                · have hqi : (q : Int) < (ls.length : Int) := by omega
                  have HW := Aside0.mk (wrapS (k := q) (by have := HM2.out; omega))
                  obtain ⟨ad2, rfl, hc2⟩ := at_text (Kd.C_below HR4.out HBq.out) q hlt
                  have hc1 := HAt.out _ HBq.out
                  have HSucc := Aside0.mk (anyT_succ y hlt)
                  generalize ls.getD q [] = t at *
                  cases hany : (!b || anyT ls q y) with
                  | true =>
                    have HE := Aside0.mk (show (!b || anyT ls (q + 1) y) = true by rw [HSucc.out, ← Bool.or_assoc, hany]; rfl)
                    clear hany HSucc
                    go_wp2_with fail
                    go_quiet (fail)
                    go_wp2_with fail
                    go_roundw
                    case rel => exact .mk (q + 1) (by rw [HE.out]) (by rw [HW.out]) (by omega) (pw_below_drewN HBi.out _)
                    case measure => rw [HW.out]; simp [intOf]; omega
                  | false =>
                    have HE := Aside0.mk (show (!b || anyT ls (q + 1) y) = ((bs y).toList == (bs t).toList) by rw [HSucc.out, ← Bool.or_assoc, hany, Ext.eq_dec, bs_data, bs_data, Bool.false_or, Bool.eq_iff_iff, decide_eq_true_iff, decide_eq_true_iff]; exact eq_comm)
                    clear hany HSucc
                    go_wp2_with fail
                    go_quiet (fail)
                    go_wp2_with fail
                    go_roundw
                    case rel => exact .mk (q + 1) (by rw [HE.out]) (by rw [HW.out]) (by omega) (pw_below_drewN HBi.out _)
                    case measure => rw [HW.out]; simp [intOf]; omega
                · obtain rfl : q = ls.length := by omega
                  have hqi : ¬ (ls.length : Int) < (ls.length : Int) := by omega
                  have hany : (!b || anyT ls ls.length y) = true := by
                    rw [anyT_all]
                    cases b with
                    | false => rfl
                    | true => exact decide_eq_true (HTh.out rfl)
                  rw [hany]
                  clear hany hlt hq
                  go_wp2_with fail
                  go_roundw
                  case rel => exact .mk (k + 1) (by rw [HWk.out]) (by omega) HBq.out
                  case measure => rw [HWk.out]; simp [intOf]; omega
            · obtain rfl : k = ys.length := by omega
              have hki : ¬ (ys.length : Int) < (ys.length : Int) := by omega
              clear hkl hk
              go_wp2_with fail
              go_ret
              exact ⟨rfl, below_then HB4.out HB4.out.size HBk.out⟩
end Go.Proofs.Ytabomfmjepmkjaa.Dk
end

section
namespace Go.Proofs.Ytabomfmjepmkjaa.Ext
set_option linter.unusedVariables false
set_option linter.unusedSimpArgs false
open Go.RowKit Go.Proofs.YtabomfmjepmkjaaW.PrintWords
open Go.ChangeShapes Go.WideShapes Go.ChangeAt Go.Deep
def Opens (P : Program) {α : Type} (d : Kd α) (t : TypeId) (Q : α → Prop) : Prop :=
  ∀ (H : Type) (enc : TypeId × Value → H) (W : World) (base : Nat) (held : Bool) (fuel : Nat) (cs : List Value) (x : DataW H × List MemPlace),
    DataW.trod enc P W base (fun _ => true) held fuel t cs = some x → (∀ n ∈ x.1.weights P t, n ≤ reachBytes) → ∃ v, d.K W v cs ∧ Q v
theorem opens_string {P : Program} {t : TypeId} (ht : P.underlying t = some .string) : Opens P Kd.string t (fun s => s.size ≤ reachBytes) := by
  intro H enc W base held fuel cs x h hw
  obtain ⟨s, rfl, rfl, _⟩ := DataW.trod_string ht h
  refine ⟨s, rfl, ?_⟩
  have := hw s.data.toList.length (by simp [DataW.weights])
  simpa using this
theorem weights_all {H : Type} {P : Program} {e : TypeId} {d : DataW H} : ∀ {ds : List (DataW H)}, d ∈ ds → ∀ n ∈ d.weights P e, n ∈ DataW.weightsAll P e ds
  | [], h, _, _ => by cases h
  | d0 :: ds, h, n, hn => by
    simp only [DataW.weightsAll, List.mem_append]
    rcases List.mem_cons.1 h with rfl | h
    · exact .inl hn
    · exact .inr (weights_all h n hn)
theorem opens_slice {P : Program} {α : Type} {d : Kd α} {t e : TypeId} {ek : Nat} {Q : α → Prop} (ht : P.underlying t = some (.slice e)) (hd : Opens P d e Q) (hc : P.cellsOf e = d.sz) :
    Opens P (Kd.slice ek d) t (fun l => (∀ x ∈ l, Q x) ∧ l.length * P.bytesOf e ≤ reachBytes) := by
  intro H enc W base held fuel cs x h hw
  rcases open_slice ht h with ⟨rfl, _⟩ | ⟨a, len, cap, m, n, D, Pl, rfl, hb, hl, hm, hmm, rfl, hx⟩
  · exact ⟨[], ⟨none, 0, rfl, Nat.le_refl _, Kd.C_nil _ _⟩, by simp, by simp⟩
  have hml : len ≤ m := by rw [hmm]; simpa using hl
  have hat : ∀ i, i < len → ∃ v cs', d.K W v cs' ∧ Q v ∧ W.cells? base (a.add (i * P.cellsOf e)) (P.cellsOf e) = some cs' := by
    intro i hi
    obtain ⟨cs', h1, h2⟩ := hx i (Nat.lt_of_lt_of_le hi hml)
    obtain ⟨v, hv, hq⟩ := hd H enc W base held n cs' _ h2 (fun n hn => hw n (by
      simp only [DataW.weights, ht, List.mem_cons, List.mem_append]
      exact .inr (.inl (weights_all (List.mem_map.2 ⟨i, by simpa using hi, rfl⟩) n hn))))
    exact ⟨v, cs', hv, hq, h1⟩
  have hl2 : ∃ l : List α, l.length = len ∧ ∀ i v, l[i]? = some v → ∃ cs', d.K W v cs' ∧ Q v ∧ W.cells? base (a.add (i * P.cellsOf e)) (P.cellsOf e) = some cs' := by
    clear hw hx hmm hml hm hl h
    induction len with
    | zero => exact ⟨[], rfl, fun i v h => by simp at h⟩
    | succ k ih =>
      obtain ⟨l, hl, hr⟩ := ih (fun i hi => hat i (by omega))
      obtain ⟨v, cs', h1, h2, h3⟩ := hat k (by omega)
      refine ⟨l ++ [v], by simp [hl], fun i u hu => ?_⟩
      by_cases hi : i < l.length
      · rw [List.getElem?_append_left hi] at hu
        exact hr i u hu
      · rw [List.getElem?_append_right (by omega)] at hu
        have hi0 : i - l.length = 0 := by
          rcases hz : i - l.length with _ | q
          · rfl
          · rw [hz] at hu; simp at hu
        rw [hi0] at hu
        simp only [List.getElem?_cons_zero, Option.some.injEq] at hu
        subst hu
        have : i = k := by omega
        subst this
        exact ⟨cs', h1, h2, h3⟩
  obtain ⟨l, rfl, hr⟩ := hl2
  refine ⟨l, ⟨some a, cap, rfl, hl, rfl, Nat.le_trans hl (by simpa [maxLen] using hm), fun _ => ⟨a, rfl, fun j p hj => ?_⟩⟩, ?_, ?_⟩
  · obtain ⟨cs', h1, _, h3⟩ := hr j p hj
    obtain ⟨_, hlen, hcell⟩ := World.cells?_some h3
    refine ⟨cs', d.K_len h1, h1, fun i u hu => ?_⟩
    have hi : i < P.cellsOf e := by have := (List.getElem?_eq_some_iff.1 hu).1; omega
    have := hcell i hi
    rw [Go.Deep.add_add, hu, hc] at this
    exact this
  · intro y hy
    obtain ⟨i, hi⟩ := List.mem_iff_getElem?.1 hy
    obtain ⟨_, _, h2, _⟩ := hr i y hi
    exact h2
  · have := hw (((List.range l.length).map D).length + ((List.range (m - l.length)).map fun j => D (l.length + j)).length |> (· * P.bytesOf e)) (by
      simp [DataW.weights, ht])
    simp only [List.length_map, List.length_range] at this
    exact Nat.le_trans (Nat.mul_le_mul_right _ (Nat.le_add_right _ _)) this
theorem opened {P : Program} {α : Type} {d : Kd α} {t : TypeId} {Q : α → Prop} (h : Opens P d t Q) {H : Type} {enc : TypeId × Value → H} {W : World} {base : Nat} {held : Bool} {v : Value} {x : DataW H} {p : List MemPlace}
    (ht : DataW.Trod enc P W base (fun _ => true) held t v x p) {ts : List TypeId} {ds : List (DataW H)} (hsz : (DataW.weightsEach P ts ds).all (· ≤ reachBytes) = true) (j : Nat) (hj : ts[j]? = some t) (hd : ds[j]? = some x) :
    ∃ a, d.K W a v.cells.toList ∧ Q a := by
  obtain ⟨fuel, hf⟩ := ht
  refine h H enc W base held fuel _ _ hf (fun n hn => ?_)
  have := List.all_eq_true.1 hsz n (DataW.weights_mem_each hj hd n hn)
  simpa using this
theorem open_row {P : Program} {α : Type} {d : Kd α} {t e : TypeId} {Q : α → Prop} (O : Opens P d e Q) (hs : P.underlying t = some (.slice e)) (hc : P.cellsOf e = d.sz) {H : Type} {enc : TypeId × Value → H} {W : World} {base b0 : Nat} {held : Bool} {r : Reach} {v : Value}
    {x : DataW H} {p : List MemPlace} (hv : Value.okWide P W r b0 t v) (ht : DataW.Trod enc P W base (fun _ => true) held t v x p) {ts : List TypeId} {ds : List (DataW H)} (hsz : (DataW.weightsEach P ts ds).all (· ≤ reachBytes) = true)
    (j : Nat) (hj : ts[j]? = some t) (hd : ds[j]? = some x) : ∃ A l c, v = .slice A l.length c ∧ l.length ≤ c ∧ d.C W A l.length l ∧ (∀ y ∈ l, Q y) ∧ l.length * P.bytesOf e ≤ reachBytes := by
  obtain ⟨l, hK, hQ, hb⟩ := opened (opens_slice (ek := 0) hs O hc) ht hsz j hj hd
  obtain ⟨A, len, cap, rfl⟩ := okWide_slice hs hv
  obtain ⟨A', c, hcs, hl, hC⟩ := hK
  have hcs' : [Value.slice A len cap] = [Value.slice A' l.length c] := hcs
  injection hcs' with h1 _
  injection h1 with h2 h3 h4
  subst h2; subst h3; subst h4
  exact ⟨A, l, cap, rfl, hl, hC, hQ, hb⟩
end Go.Proofs.Ytabomfmjepmkjaa.Ext
end

section
namespace Go.Proofs.Ytabomfmjepmkjaa.diskLists
set_option linter.unusedVariables false
set_option linter.unusedSimpArgs false
open Go.RowKit Go.Proofs.YtabomfmjepmkjaaW.PrintWords Go.Proofs.Ytabomfmjepmkjaa.Lib
open Go.ChangeShapes Go.WideShapes Go.ChangeAt
open Go.ChangeMaps (open_string shut_string)
theorem own : ownKnob Try.prog.godebug = none := by kernel_rfl
theorem laidOut : laidOutB Try.prog = true := by kernel_rfl
open Go.Proofs.Ytabomfmjepmkjaa.Ext Go.Proofs.Ytabomfmjepmkjaa.Dk Go.Proofs.Ytabomfmjepmkjaa.Txt
set_option maxRecDepth 100000 in
theorem open_text {H : Type} {enc : TypeId × Value → H} {W : World} {base b0 : Nat} {held : Bool} {r : Reach} {v : Value} {x : DataW H} {p : List MemPlace} (hv : Value.okWide Try.prog W r b0 9 v) (ht : DataW.Trod enc Try.prog W base (fun _ => true) held 9 v x p)
    {ts : List TypeId} {ds : List (DataW H)} (hsz : (DataW.weightsEach Try.prog ts ds).all (· ≤ reachBytes) = true) (j : Nat) (hj : ts[j]? = some 9) (hd : ds[j]? = some x) : ∃ a, v = .string a ∧ a.size ≤ reachBytes := by
  obtain ⟨a, hK, hQ⟩ := opened (opens_string Try.underlying9) ht hsz j hj hd
  obtain ⟨b, rfl, _⟩ := Go.ChangeMaps.open_string Try.underlying9 hv ht
  have e : [Value.string b] = [Value.string a] := hK
  injection e with e
  injection e with e
  exact ⟨b, rfl, by rw [e]; exact hQ⟩
theorem walk (W : World) (A : Option Addr) (c : Nat) (l : List ByteArray) (a : ByteArray) (hC : Kd.string.C W A l.length l) (hQ : ∀ y ∈ l, y.size ≤ reachBytes) (ha : a.size ≤ reachBytes) :
    Calls Try.prog 5 #[.slice A l.length c, .string a] W fun e w' => e = .returned (.bool true) ∧ Below W.heap.size W w' := by
  have hr : reachBytes < 4611686018427387904 := by decide
  exact lists_calls (l.map (·.data.toList)) a.data.toList l.length c A W (text_of_strings hC) (fun t ht => by
    obtain ⟨y, hy, rfl⟩ := List.mem_map.1 ht
    have h1 : y.data.toList.length = y.size := rfl
    rw [h1]
    exact Nat.lt_of_le_of_lt (hQ y hy) hr) (Nat.lt_of_le_of_lt ha hr)
set_option maxRecDepth 100000 in
theorem lifted (os : Os) (started : os.Started) (H : Type) (enc : TypeId × Value → H) :
    ReturnsInHanded {} Try.checked os 5 .any (Rows.diskListsSpec.pre6 enc Try.prog Try.f5 Rows.diskListsRow.domain false) (Rows.diskListsSpec.post enc Try.prog Try.f5 false true false false) := by
  refine returnsInHanded_of_change_sized (C := Try.checked) own started (by kernel_rfl) Try.func5
    (ChangeSpec.witness6 (enc := enc) (C := Try.checked) false ⟨#[], #[.slice none 0 0, .string .empty], []⟩ 8 (by kernel_rfl) (by kernel_rfl) (by kernel_rfl) (by kernel_rfl)) ?_
  intro W base args ds gs before hval0 hW hcnd hsz _
  have hval : ∀ (j : Nat) t v, Try.f5.params[j]? = some t → args[j]? = some v → Value.okWide Try.prog W .any base t v := hval0
  have hW' := hW
  obtain ⟨p, q, hA0, hV, rfl, hfz, hnd⟩ := hW
  have hA : DataW.TrodAll enc Try.prog W 0 (fun _ => true) true Try.f5.params.toList args.toList ds p := hA0
  rw [Try.params5] at hA hval
  obtain ⟨v0, vs0, d0, ds0, p0, q0, hargs, rfl, rfl, h0, r0⟩ := trodAll_cons hA
  obtain ⟨v1, vs1, d1, ds1, p1, q1, rfl, rfl, rfl, h1, r1⟩ := trodAll_cons r0
  obtain ⟨rfl, rfl, rfl⟩ := trodAll_nil r1
  obtain rfl : args = #[v0, v1] := by cases args; simp_all
  obtain ⟨rfl, rfl⟩ := trodVars_none hV
  have k0 := h0
  have lt0 : ∀ x ∈ p0, x.block < W.heap.size := by obtain ⟨m, hm⟩ := k0; exact DataW.trod_lt m _ _ _ hm
  obtain ⟨A0, l0, c0, rfl, hl0, hC0, hQ0, hb0⟩ := open_row (opens_string Try.underlying9) Try.underlying36 (by kernel_rfl) (hval 0 _ v0 rfl rfl) h0 hsz 0 rfl rfl
  have k1 := h1
  have lt1 : ∀ x ∈ p1, x.block < W.heap.size := by obtain ⟨m, hm⟩ := k1; exact DataW.trod_lt m _ _ _ hm
  obtain ⟨a1, rfl, hsz1⟩ := open_text (hval 1 _ v1 rfl rfl) h1 hsz 1 rfl rfl
  clear hA0 hval0
  refine (walk W A0 c0 l0 a1 hC0 hQ0 hsz1).mono fun e W' ⟨he, bel⟩ => ?_
  subst he
  exact ⟨_, rfl, _, _, _, [], _, [], hW', trodAll_mk1 (shut_bool Try.underlying4 _), (trodAll_cons_mk (Below.trod laidOut (by kernel_rfl) (of_decide_eq_true (by kernel_rfl)) k0 bel lt0) (trodAll_cons_mk (Below.trod laidOut (by kernel_rfl) (of_decide_eq_true (by kernel_rfl)) k1 bel lt1) trodAll_mk0)), rfl, bel.frame _, fun h => by cases h⟩
theorem proved : Rows.DiskListsSaid :=
  OpenClaim.holds_of_wide 5 Try.f5 rfl rfl rfl rfl rfl rfl rfl ⟨rfl, rfl, rfl, rfl, rfl⟩ rfl rfl rfl rfl rfl (by kernel_rfl) Try.func5 (by kernel_rfl)
    (of_decide_eq_true (by kernel_rfl)) (by unfold Func.isWrapper; first | (rw [if_pos (by decide +kernel)]; kernel_rfl) | (rw [if_neg (by decide +kernel)]; exact ⟨rfl, rfl⟩))
    (fun os started H enc _ => lifted os started H enc)
end Go.Proofs.Ytabomfmjepmkjaa.diskLists
end
