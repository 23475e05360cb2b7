/- Texts of this repo, joined, without what this claim does not use: BkNote5, BkNote, DkLook, BkLaw, BkInv, OpenK, OpenB, Bulk, UptoK, BkOps, Shelf, KeysShelf, DkList, DkAwake, BkLoop, DkListsP, DkKeeps, LawDiskKeeps. -/
import Derived.Test.YtabomfmjepmkjaaDDiskKeeps1
import Derived.Test.YtabomfmjepmkjaaDDiskKeeps2
import Derived.SizedLaws
import Derived.Deep.Slices
import Derived.Test.YtabomfmjepmkjaaRows
import Derived.JoinedCond
import Derived.Shelf.Small.Bits
import Derived.Shelf.Strconv.Itoa0
import Derived.Shelf.Sort.Plain
import Derived.Shelf.Strings.Prefix
import Derived.Shelf.Slices.In.SortNone
import Derived.Test.YtabomfmjepmkjaaProg
import Derived.Shelf.SlIter.Nil
import Derived.Ground.GgzProg
import Derived.Sort.OwnSorted
import Derived.Shelf.SlIter.Sorted
import Derived.WideKeyArgs2
import Derived.ProofKit
import Derived.OpenShut
section
namespace Go.Proofs.Ytabomfmjepmkjaa.Dk
set_option linter.unusedVariables false
set_option linter.unusedSimpArgs false
open Go.RowKit Go.Proofs.YtabomfmjepmkjaaW.PrintWords Go.Proofs.YtabomfmjepmkjaaW.PrintLast Go.Proofs.YtabomfmjepmkjaaW.PrintMore Go.Proofs.Ytabomfmjepmkjaa.Lib Go.Proofs.Ytabomfmjepmkjaa.Mem Go.Proofs.Ytabomfmjepmkjaa.Txt
open Go.MapKept Go.ChangeMaps
set_option maxRecDepth 100000 in
set_option maxHeartbeats 3200000 in
theorem note_rename (w : World) (Od Ob : Nat → Prop) (p q : Nat) (d : DS) (b : BS) (kind a N : Int) (sA sB : ByteArray) (B : Option Addr) (mB cB n : Nat) (xs : List Int) (hd : DkAt w Od p d) (hb : BkAt w Ob q b) (hap : ∀ k, Od k → ¬ Ob k)
    (hl1 : b.names.length = n) (hl2 : b.bytes.length = n) (hl3 : b.syn.length = n) (hn : n < 1000000) (hA : sA.size < 4611686018427387904) (hB : sB.size < 4611686018427387904) (hC : ∀ w', Only (fun k => Od k ∨ Ob k) w w' → Kd.C (Kd.int .u8) w' B mB xs) (ha : P.gristmilllaw12_abs.f kind = some a) (hk : Int.tmod a 6 = 5) (ho : ops62 d) :
    Calls Try.prog 20 #[.pointer (some ⟨q, 0, none⟩), .pointer (some ⟨p, 0, none⟩), .agg #[.int .i64 kind, .string sA, .string sB, .slice B mB cB, .int .i64 N]] w fun e w' => e = .returned (.bool (noteRename d b (nameT sA.size) (nameT sB.size)).2.2) ∧ Noted w w' Od Ob p q (noteRename d b (nameT sA.size) (nameT sB.size)).1 (noteRename d b (nameT sA.size) (nameT sB.size)).2.1 := by
  have HD0 := Aside0.mk (DB.start hd hb hap)
  have HL := Aside0.mk (And.intro hl1 (And.intro hl2 hl3))
  have HN := Aside0.mk hn
  have HAb := Aside0.mk ha
  have HOp := Aside0.mk ho
  have HC := Aside0.mk hC
  have HB := Aside0.mk hB
  have HName := Aside0.mk (name_f sA.size (by omega))
  have HSh := Aside0.mk (show Shorts [nameT sA.size] from fun t ht => by rw [List.mem_singleton.1 ht]; have := nameT_len sA.size; omega)
  have HNd := Aside0.mk (nameT_named sA.size)
  have HName2 := Aside0.mk (name_f sB.size (by omega))
  have HSh2 := Aside0.mk (show Shorts [nameT sA.size, nameT sB.size] from fun t ht => by
    rcases List.mem_cons.1 ht with rfl | ht
    · have := nameT_len sA.size; omega
    · rw [List.mem_singleton.1 ht]; have := nameT_len sB.size; omega)
  generalize nameT sA.size = s at *
  generalize nameT sB.size = t at *
  clear hd hb hap hl1 hl2 hl3 ha ho hC hB hA hn
  go_enter Try.func20, Try.ntmps20
  go_wp2_with (first
    | (((with_reducible refine gate_dst (N := 5) rfl ?_); refine box_event ?hg (N := 5) ?hd (cs := #[.int .i64 kind, .string sA, .string sB, .slice B mB cB, .int .i64 N]) (t := 44) ?hr ?_; (case hd => rfl); (case hg => rfl); (case hr => first | (go_simp; done) | (go_simp; rfl)); intro g1 hg w1 hbox hb; have GE1 := Aside0.mk (Nat.le_of_eq hg.symm); have BK1 := Aside0.mk hbox; have HX1 := Aside0.mk hb; clear hg hbox hb); (have hg1_0 : w1.cell? ⟨g1, 0, none⟩ = some (.int .i64 kind) := (blk_cell BK1.out 0).trans rfl; have hfg1_0 := blk_frozen BK1.out 0; have hg1_1 : w1.cell? ⟨g1, 1, none⟩ = some (.string sA) := (blk_cell BK1.out 1).trans rfl; have hfg1_1 := blk_frozen BK1.out 1; have hg1_2 : w1.cell? ⟨g1, 2, none⟩ = some (.string sB) := (blk_cell BK1.out 2).trans rfl; have hfg1_2 := blk_frozen BK1.out 2; have hg1_3 : w1.cell? ⟨g1, 3, none⟩ = some (.slice B mB cB) := (blk_cell BK1.out 3).trans rfl; have hfg1_3 := blk_frozen BK1.out 3; have hg1_4 : w1.cell? ⟨g1, 4, none⟩ = some (.int .i64 N) := (blk_cell BK1.out 4).trans rfl; have hfg1_4 := blk_frozen BK1.out 4))
    | fail)
  refine (P.gristmilllaw12_name.calls (sA.size : Int) (bs s) w1 HName.out).mono ?_
  rintro e w2 ⟨rfl, hb2⟩
  have BK2 := Aside0.mk (blk_below BK1.out hb2)
  have HD2 := Aside0.mk ((HD0.out.below HX1.out).below hb2)
  clear hg1_0 hfg1_0 hg1_1 hfg1_1 hg1_2 hfg1_2 hg1_3 hfg1_3 hg1_4 hfg1_4
  clear hb2 HD0 HX1
  go_wp2_with fail
  refine (at_calls w2 _ q b s HD2.out.bk (by rw [HL.out.1]; exact HN.out)).mono ?_
  rintro e w3 ⟨rfl, hb3⟩
  have BK3 := Aside0.mk (blk_below BK2.out hb3)
  have HD3 := Aside0.mk (HD2.out.below hb3)
  clear hb3 HD2
  (have hg1_0 : w3.cell? ⟨g1, 0, none⟩ = some (.int .i64 kind) := (blk_cell BK3.out 0).trans rfl; have hfg1_0 := blk_frozen BK3.out 0; have hg1_1 : w3.cell? ⟨g1, 1, none⟩ = some (.string sA) := (blk_cell BK3.out 1).trans rfl; have hfg1_1 := blk_frozen BK3.out 1; have hg1_2 : w3.cell? ⟨g1, 2, none⟩ = some (.string sB) := (blk_cell BK3.out 2).trans rfl; have hfg1_2 := blk_frozen BK3.out 2; have hg1_3 : w3.cell? ⟨g1, 3, none⟩ = some (.slice B mB cB) := (blk_cell BK3.out 3).trans rfl; have hfg1_3 := blk_frozen BK3.out 3; have hg1_4 : w3.cell? ⟨g1, 4, none⟩ = some (.int .i64 N) := (blk_cell BK3.out 4).trans rfl; have hfg1_4 := blk_frozen BK3.out 4)
  go_wp2_with fail
  refine (P.gristmilllaw12_abs.calls kind a w3 HAb.out).mono ?_
  rintro e w4 ⟨rfl, hdr⟩
  have BK4 := Aside0.mk (blk_below BK3.out hdr.below)
  have HD4 := Aside0.mk (HD3.out.below hdr.below)
  clear hg1_0 hfg1_0 hg1_1 hfg1_1 hg1_2 hfg1_2 hg1_3 hfg1_3 hg1_4 hfg1_4
  clear hdr HD3
  obtain ⟨ix, hix⟩ : ∃ ix, ix = idxT b.names s := ⟨_, rfl⟩
  have HIx := Aside0.mk hix
  rw [← hix]
  clear hix
  (have hg1_0 : w4.cell? ⟨g1, 0, none⟩ = some (.int .i64 kind) := (blk_cell BK4.out 0).trans rfl; have hfg1_0 := blk_frozen BK4.out 0; have hg1_1 : w4.cell? ⟨g1, 1, none⟩ = some (.string sA) := (blk_cell BK4.out 1).trans rfl; have hfg1_1 := blk_frozen BK4.out 1; have hg1_2 : w4.cell? ⟨g1, 2, none⟩ = some (.string sB) := (blk_cell BK4.out 2).trans rfl; have hfg1_2 := blk_frozen BK4.out 2; have hg1_3 : w4.cell? ⟨g1, 3, none⟩ = some (.slice B mB cB) := (blk_cell BK4.out 3).trans rfl; have hfg1_3 := blk_frozen BK4.out 3; have hg1_4 : w4.cell? ⟨g1, 4, none⟩ = some (.int .i64 N) := (blk_cell BK4.out 4).trans rfl; have hfg1_4 := blk_frozen BK4.out 4)
  go_wp2_with fail
  refine (P.gristmilllaw12_name.calls (sB.size : Int) (bs t) w4 HName2.out).mono ?_
  rintro e w5 ⟨rfl, hb5⟩
  have HD5 := Aside0.mk (HD4.out.below hb5)
  clear hg1_0 hfg1_0 hg1_1 hfg1_1 hg1_2 hfg1_2 hg1_3 hfg1_3 hg1_4 hfg1_4
  clear hb5 HD4
  go_wp2_with fail
  refine (rename_calls w5 _ p d s t HD5.out.dk HSh2.out HOp.out).mono ?_
  rintro e w6 ⟨rfl, hd6, ho6⟩
  have HD6 := Aside0.mk (HD5.out.disk' hd6 ho6)
  clear hd6 ho6 HD5
  obtain ⟨⟨d6, r6⟩, hrs⟩ : ∃ rs, rs = renameS d s t := ⟨_, rfl⟩
  rw [← hrs] at HD6 ⊢
  have HRs := Aside0.mk hrs.symm
  clear hrs
  simp only at HD6 ⊢
  by_cases hx : 0 ≤ ix
  · by_cases hst : s = t
    · have HE := Aside0.mk (show noteRename d b s t = (d6, b, r6 == 0) by
        unfold noteRename BS.move; rw [HRs.out, ← HIx.out, if_neg (fun h => h.2 hst), decide_eq_true hx, beqT])
      have hcmp : ((bs s).toList == (bs t).toList) = true := by rw [Ext.eq_dec, bs_data, bs_data]; exact decide_eq_true hst
      have hx1 : decide (0 ≤ ix) = true := decide_eq_true hx
      clear hst hx
      go_wp2_with fail
      go_ret
      rw [HE.out]
      exact ⟨rfl, _, _, HD6.out⟩
    · have hcmp : ((bs s).toList == (bs t).toList) = false := by rw [Ext.eq_dec, bs_data, bs_data]; exact decide_eq_false hst
      have HMv := Aside0.mk (show b.move s t = (if 0 ≤ idxT b.names t then ({ b with names := b.names.set ix.toNat t } : BS).out (idxT b.names t).toNat else { b with names := b.names.set ix.toNat t }) by
        unfold BS.move; rw [← HIx.out, if_pos ⟨hx, hst⟩])
      have HE := Aside0.mk (show noteRename d b s t = (d6, b.move s t, r6 == 0) by
        unfold noteRename; rw [HRs.out, ← HIx.out, decide_eq_true hx, beqT])
      clear hst
      obtain ⟨i, hi, hil, -⟩ := idxT_nat (names := b.names) (s := s) (by rw [← HIx.out]; exact hx)
      obtain rfl : ix = (i : Int) := HIx.out.trans hi
      clear hi hx
      rw [HL.out.1] at hil
      rw [Int.toNat_natCast] at HMv
      go_wp2_with fail
      refine (at_calls w6 _ q b t HD6.out.bk (by rw [HL.out.1]; exact HN.out)).mono ?_
      rintro e w7 ⟨rfl, hb7⟩
      have HD7 := Aside0.mk (HD6.out.below hb7)
      clear hb7 HD6
      obtain ⟨A1, A2, A3, n1, n2, n3, c1, c2, c3, hbk⟩ := HD7.out.bk
      obtain rfl : n1 = n := hbk.r1.len.symm.trans HL.out.1
      obtain rfl : n2 = n1 := hbk.r2.len.symm.trans HL.out.2.1
      obtain rfl : n3 = n2 := hbk.r3.len.symm.trans HL.out.2.2
      obtain ⟨gn, e1, -, -, hcn, hfn⟩ := hbk.r1.at i (b.names.getD i []) (by rw [List.getD_eq_getElem?_getD, List.getElem?_eq_getElem (by rw [HL.out.1]; exact hil)]; rfl)
      subst e1
      generalize b.names.getD i [] = y at *
      have d0 : w7.cell? ⟨q, 0, none⟩ = some (.slice (some ⟨gn, 0, none⟩) n3 c1) := (blk_cell hbk.blk 0).trans rfl
      have hz : w7.cell? ⟨gn, i, none⟩ = some (.string (bs y)) := hcn
      have HSet := Aside0.mk (hbk.set1 rfl i t)
      have hil2 : (i : Int) < (n3 : Int) := by omega
      have HIl := Aside0.mk hil
      clear hbk hcn hil
      obtain ⟨iy, hiy⟩ : ∃ iy, iy = idxT b.names t := ⟨_, rfl⟩
      have HIy := Aside0.mk hiy
      rw [← hiy] at HMv ⊢
      clear hiy
      by_cases hy : 0 ≤ iy
      · have HE2 := Aside0.mk (show noteRename d b s t = (d6, ({ b with names := b.names.set i t } : BS).out iy.toNat, r6 == 0) by rw [HE.out, HMv.out, if_pos hy])
        obtain ⟨k, hk2, hkl, -⟩ := idxT_nat (names := b.names) (s := t) (by rw [← HIy.out]; exact hy)
        obtain rfl : iy = (k : Int) := HIy.out.trans hk2
        clear hk2 hy HMv
        rw [HL.out.1] at hkl
        rw [Int.toNat_natCast] at HE2
        have HKl := Aside0.mk hkl
        clear hkl
        go_wp2_with fail
        have HW := Aside0.mk (HD7.out.book ⟨_, _, _, _, _, _, _, _, _, HSet.out.1.mono (fun _ hk => .inl hk)⟩ HSet.out.2)
        have HBk := Aside0.mk (HSet.out.1.mono (ok' := okx _ w7 (w7.setCell ⟨gn, i, none⟩ (.string (bs t)))) (fun _ hk => .inl hk))
        clear HSet d0 hz hfn
        generalize w7.setCell ⟨gn, i, none⟩ (.string (bs t)) = w8 at *
        refine (out_calls w8 _ q _ _ _ _ n3 _ _ _ k HBk.out HKl.out HN.out).mono ?_
        rintro e w9 ⟨rfl, hb9, ho9⟩
        have HD9 := Aside0.mk (HW.out.book hb9 ho9)
        clear hb9 ho9 HW HBk
        go_wp2_with fail
        go_ret
        rw [HE2.out]
        exact ⟨rfl, _, _, HD9.out⟩
      · have HE2 := Aside0.mk (show noteRename d b s t = (d6, { b with names := b.names.set i t }, r6 == 0) by rw [HE.out, HMv.out, if_neg hy])
        have hy1 : decide (0 ≤ iy) = false := decide_eq_false hy
        clear hy HMv
        go_wp2_with fail
        go_ret
        rw [HE2.out]
        exact ⟨rfl, _, _, HD7.out.book ⟨_, _, _, _, _, _, _, _, _, HSet.out.1.mono (fun _ hk => .inl hk)⟩ HSet.out.2⟩
  · have HE := Aside0.mk (show noteRename d b s t = (d6, b, !(r6 == 0)) by
      unfold noteRename BS.move; rw [HRs.out, ← HIx.out, if_neg (fun h => hx h.1), decide_eq_false hx, beqF])
    have hx1 : decide (0 ≤ ix) = false := decide_eq_false hx
    clear hx
    go_wp2_with fail
    go_ret
    rw [HE.out]
    exact ⟨rfl, _, _, HD6.out⟩
end Go.Proofs.Ytabomfmjepmkjaa.Dk
end

section
namespace Go.Proofs.Ytabomfmjepmkjaa.Dk
set_option linter.unusedVariables false
set_option linter.unusedSimpArgs false
open Go.RowKit Go.Proofs.YtabomfmjepmkjaaW.PrintWords Go.Proofs.YtabomfmjepmkjaaW.PrintLast Go.Proofs.YtabomfmjepmkjaaW.PrintMore Go.Proofs.Ytabomfmjepmkjaa.Lib Go.Proofs.Ytabomfmjepmkjaa.Mem Go.Proofs.Ytabomfmjepmkjaa.Txt
open Go.MapKept Go.ChangeMaps
def absN (n : Int) : Nat := (if n < 0 then -(n + 1) else n).toNat
theorem absN_is {n : Int} (h0 : -9223372036854775808 ≤ n) (h1 : n < 9223372036854775808) : P.gristmilllaw12_abs.f n = some (absN n : Int) := by
  unfold P.gristmilllaw12_abs.f absN
  by_cases h : n < 0
  · rw [if_pos h, if_pos h]
    congr 1
    unfold wrap64
    omega
  · rw [if_neg h, if_neg h]
    congr 1
    omega
def noteS (d : DS) (b : BS) (kind : Int) (s t : T) (xs : List Int) : DS × BS × Bool :=
  if absN kind % 6 = 3 then noteSync d b s else if absN kind % 6 = 4 then noteRemove d b s else if absN kind % 6 = 5 then noteRename d b s t else noteAppend d b s xs
theorem note_calls (w : World) (Od Ob : Nat → Prop) (p q : Nat) (d : DS) (b : BS) (kind N : Int) (sA sB : ByteArray) (B : Option Addr) (mB cB n : Nat) (xs : List Int) (hd : DkAt w Od p d) (hb : BkAt w Ob q b) (hap : ∀ k, Od k → ¬ Ob k)
    (hl1 : b.names.length = n) (hl2 : b.bytes.length = n) (hl3 : b.syn.length = n) (hn : n < 1000000) (hA : sA.size < 4611686018427387904) (hB : sB.size < 4611686018427387904) (hC : ∀ w', Only (fun k => Od k ∨ Ob k) w w' → Kd.C (Kd.int .u8) w' B mB xs)
    (h0 : -9223372036854775808 ≤ kind) (h1 : kind < 9223372036854775808) (ho : ops62 d) (hfit : ((look d.fs (nameT sA.size)).getD ([], 0)).1.length + mB ≤ 140737488355328) (hcat : (b.bytes.getD (idxT b.names (nameT sA.size)).toNat []).length + mB ≤ 9223372036854775807) :
    Calls Try.prog 20 #[.pointer (some ⟨q, 0, none⟩), .pointer (some ⟨p, 0, none⟩), .agg #[.int .i64 kind, .string sA, .string sB, .slice B mB cB, .int .i64 N]] w fun e w' => e = .returned (.bool (noteS d b kind (nameT sA.size) (nameT sB.size) xs).2.2) ∧ Noted w w' Od Ob p q (noteS d b kind (nameT sA.size) (nameT sB.size) xs).1 (noteS d b kind (nameT sA.size) (nameT sB.size) xs).2.1 := by
  have ha := absN_is h0 h1
  have e : Int.tmod (absN kind : Int) 6 = ((absN kind % 6 : Nat) : Int) := by rw [Int.tmod_eq_emod_of_nonneg (by omega)]; rfl
  unfold noteS
  generalize absN kind = a at *
  have hm : a % 6 < 6 := Nat.mod_lt _ (by decide)
  generalize a % 6 = r at *
  rcases r with _ | _ | _ | _ | _ | _ | r
  · exact note_append0 w Od Ob p q d b kind a N sA sB B mB cB n xs hd hb hap hl1 hl2 hl3 hn hA hB hC ha e ho hfit hcat
  · exact note_append1 w Od Ob p q d b kind a N sA sB B mB cB n xs hd hb hap hl1 hl2 hl3 hn hA hB hC ha e ho hfit hcat
  · exact note_append2 w Od Ob p q d b kind a N sA sB B mB cB n xs hd hb hap hl1 hl2 hl3 hn hA hB hC ha e ho hfit hcat
  · exact note_sync w Od Ob p q d b kind a N sA sB B mB cB n xs hd hb hap hl1 hl2 hl3 hn hA hB hC ha e ho
  · exact note_remove w Od Ob p q d b kind a N sA sB B mB cB n xs hd hb hap hl1 hl2 hl3 hn hA hB hC ha e ho
  · exact note_rename w Od Ob p q d b kind a N sA sB B mB cB n xs hd hb hap hl1 hl2 hl3 hn hA hB hC ha e ho
  · omega
end Go.Proofs.Ytabomfmjepmkjaa.Dk
end

section
namespace Go.Proofs.Ytabomfmjepmkjaa.Dk
set_option linter.unusedVariables false
set_option linter.unusedSimpArgs false
open Go.RowKit Go.Proofs.YtabomfmjepmkjaaW.PrintWords Go.Proofs.Ytabomfmjepmkjaa.Lib Go.Proofs.Ytabomfmjepmkjaa.Txt
def Nd (fs : Fs) : Prop := fs.Pairwise fun a b => a.1 ≠ b.1
theorem look_not {fs : Fs} {nm : T} (h : ∀ x ∈ fs, x.1 ≠ nm) : look fs nm = none := by
  unfold look
  rw [List.find?_eq_none.2 (fun x hx => by
    have : hasName nm x = false := decide_eq_false (h x hx)
    rw [this]; simp)]
  rfl
theorem look_cons (x : T × Fv) (fs : Fs) (nm : T) : look (x :: fs) nm = if x.1 = nm then some x.2 else look fs nm := by
  unfold look
  rw [List.find?_cons]
  by_cases h : x.1 = nm
  · rw [if_pos h, show hasName nm x = true from decide_eq_true h]
    rfl
  · rw [if_neg h, show hasName nm x = false from decide_eq_false h]
theorem look_nil (nm : T) : look [] nm = none := rfl
theorem look_mem {fs : Fs} (hn : Nd fs) {x : T × Fv} (hx : x ∈ fs) : look fs x.1 = some x.2 := by
  induction fs with
  | nil => simp at hx
  | cons y fs ih =>
    have h := List.pairwise_cons.1 hn
    rw [look_cons]
    rcases List.mem_cons.1 hx with rfl | hx
    · rw [if_pos rfl]
    · rw [if_neg (h.1 x hx)]
      exact ih h.2 hx
theorem mem_look {fs : Fs} {nm : T} {v : Fv} (h : look fs nm = some v) : (nm, v) ∈ fs := by
  induction fs with
  | nil => rw [look_nil] at h; cases h
  | cons y fs ih =>
    rw [look_cons] at h
    split at h
    · rename_i e
      injection h with h
      rw [← e, ← h]
      exact List.mem_cons_self
    · exact List.mem_cons_of_mem _ (ih h)
theorem idx_cons (x : T × Fv) (fs : Fs) (nm : T) : (x :: fs).findIdx? (hasName nm) = if x.1 = nm then some 0 else (fs.findIdx? (hasName nm)).map (· + 1) := by
  rw [List.findIdx?_cons]
  by_cases h : x.1 = nm
  · rw [if_pos h, show hasName nm x = true from decide_eq_true h, if_pos rfl]
  · rw [if_neg h, show hasName nm x = false from decide_eq_false h]
    rfl
theorem putF_nil (nm : T) (v : Fv) : putF [] nm v = [(nm, v)] := rfl
theorem putF_cons (x : T × Fv) (fs : Fs) (nm : T) (v : Fv) : putF (x :: fs) nm v = if x.1 = nm then (nm, v) :: fs else x :: putF fs nm v := by
  unfold putF
  rw [idx_cons]
  by_cases h : x.1 = nm
  · rw [if_pos h, if_pos h]; rfl
  · rw [if_neg h, if_neg h]
    cases fs.findIdx? (hasName nm) with
    | none => rfl
    | some i => rfl
theorem delF_nil (nm : T) : delF [] nm = [] := rfl
theorem delF_cons (x : T × Fv) (fs : Fs) (nm : T) : delF (x :: fs) nm = if x.1 = nm then fs else x :: delF fs nm := by
  unfold delF
  rw [idx_cons]
  by_cases h : x.1 = nm
  · rw [if_pos h, if_pos h]; rfl
  · rw [if_neg h, if_neg h]
    cases fs.findIdx? (hasName nm) with
    | none => rfl
    | some i => rfl
theorem look_put (fs : Fs) (a : T) (v : Fv) (b : T) : look (putF fs a v) b = if b = a then some v else look fs b := by
  induction fs with
  | nil =>
    rw [putF_nil, look_cons, look_nil]
    by_cases h : b = a
    · rw [if_pos h, if_pos h.symm]
    · rw [if_neg h, if_neg (Ne.symm h)]
  | cons x fs ih =>
    rw [putF_cons]
    by_cases hx : x.1 = a
    · rw [if_pos hx, look_cons, look_cons]
      by_cases h : b = a
      · rw [if_pos h, if_pos h.symm]
      · rw [if_neg h, if_neg (fun e => h e.symm), if_neg (fun e => h (e.symm.trans hx))]
    · rw [if_neg hx, look_cons, look_cons, ih]
      by_cases h : b = a
      · rw [if_pos h, if_pos h, if_neg (fun e => hx (e.trans h))]
      · rw [if_neg h, if_neg h]
theorem mem_put {fs : Fs} {a : T} {v : Fv} {x : T × Fv} (h : x ∈ putF fs a v) : x = (a, v) ∨ x ∈ fs := by
  induction fs with
  | nil => rw [putF_nil] at h; exact .inl (List.mem_singleton.1 h)
  | cons y fs ih =>
    rw [putF_cons] at h
    split at h
    · rcases List.mem_cons.1 h with h | h
      · exact .inl h
      · exact .inr (List.mem_cons_of_mem _ h)
    · rcases List.mem_cons.1 h with h | h
      · exact .inr (by rw [h]; exact List.mem_cons_self)
      · exact (ih h).imp id (List.mem_cons_of_mem _)
theorem mem_del {fs : Fs} {a : T} {x : T × Fv} (h : x ∈ delF fs a) : x ∈ fs := by
  induction fs with
  | nil => exact h
  | cons y fs ih =>
    rw [delF_cons] at h
    split at h
    · exact List.mem_cons_of_mem _ h
    · rcases List.mem_cons.1 h with h | h
      · rw [h]; exact List.mem_cons_self
      · exact List.mem_cons_of_mem _ (ih h)
theorem nd_put {fs : Fs} (hn : Nd fs) (a : T) (v : Fv) : Nd (putF fs a v) := by
  induction fs with
  | nil => rw [putF_nil]; exact List.pairwise_singleton _ _
  | cons x fs ih =>
    have h := List.pairwise_cons.1 hn
    rw [putF_cons]
    by_cases hx : x.1 = a
    · rw [if_pos hx]
      exact List.pairwise_cons.2 ⟨fun y hy => by have := h.1 y hy; rw [hx] at this; exact this, h.2⟩
    · rw [if_neg hx]
      refine List.pairwise_cons.2 ⟨fun y hy => ?_, ih h.2⟩
      rcases mem_put hy with e | hy
      · rw [e]; exact hx
      · exact h.1 y hy
theorem nd_del {fs : Fs} (hn : Nd fs) (a : T) : Nd (delF fs a) := by
  unfold delF
  split
  · exact hn.sublist (List.eraseIdx_sublist _ _)
  · exact hn
theorem look_del {fs : Fs} (hn : Nd fs) (a b : T) : look (delF fs a) b = if b = a then none else look fs b := by
  induction fs with
  | nil => rw [delF_nil, look_nil]; split <;> rfl
  | cons x fs ih =>
    have h := List.pairwise_cons.1 hn
    rw [delF_cons]
    by_cases hx : x.1 = a
    · rw [if_pos hx, look_cons]
      by_cases e : b = a
      · rw [if_pos e, look_not (fun y hy => by have := h.1 y hy; rw [hx, ← e] at this; exact this.symm)]
      · rw [if_neg e, if_neg (fun h2 => e (h2.symm.trans hx))]
    · rw [if_neg hx, look_cons, look_cons, ih h.2]
      by_cases e : b = a
      · rw [if_pos e, if_pos e, if_neg (fun h2 => hx (h2.trans e))]
      · rw [if_neg e, if_neg e]
theorem len_put (fs : Fs) (a : T) (v : Fv) : (putF fs a v).length = if (look fs a).isSome = true then fs.length else fs.length + 1 := by
  induction fs with
  | nil => rfl
  | cons x fs ih =>
    rw [putF_cons, look_cons]
    by_cases hx : x.1 = a
    · rw [if_pos hx, if_pos hx]; rfl
    · rw [if_neg hx, if_neg hx, List.length_cons, List.length_cons, ih]
      split <;> rfl
theorem len_del (fs : Fs) (a : T) : fs.length = if (look fs a).isSome = true then (delF fs a).length + 1 else (delF fs a).length := by
  induction fs with
  | nil => rfl
  | cons x fs ih =>
    rw [delF_cons, look_cons]
    by_cases hx : x.1 = a
    · rw [if_pos hx, if_pos hx]; rfl
    · rw [if_neg hx, if_neg hx, List.length_cons, List.length_cons]
      split
      · rename_i h; rw [if_pos h] at ih; omega
      · rename_i h; rw [if_neg h] at ih; omega
theorem look_map (fs : Fs) (g : Fv → Fv) (a : T) : look (fs.map fun x => (x.1, g x.2)) a = (look fs a).map g := by
  induction fs with
  | nil => rfl
  | cons x fs ih =>
    rw [List.map_cons, look_cons, look_cons, ih]
    split <;> rfl
theorem perm_of_look {a b : Fs} (ha : Nd a) (hb : Nd b) (h : ∀ nm, look a nm = look b nm) : a.Perm b := by
  have nd : ∀ {l : Fs}, Nd l → l.Nodup := fun hl => hl.imp (fun {x y} hne e => hne (by rw [e]))
  refine (List.perm_ext_iff_of_nodup (nd ha) (nd hb)).2 fun x => ⟨fun hx => ?_, fun hx => ?_⟩
  · have := look_mem ha hx
    rw [h] at this
    exact mem_look this
  · have := look_mem hb hx
    rw [← h] at this
    exact mem_look this
end Go.Proofs.Ytabomfmjepmkjaa.Dk
end

section
namespace Go.Proofs.Ytabomfmjepmkjaa.Dk
set_option linter.unusedVariables false
set_option linter.unusedSimpArgs false
open Go.RowKit Go.Proofs.YtabomfmjepmkjaaW.PrintWords Go.Proofs.Ytabomfmjepmkjaa.Lib Go.Proofs.Ytabomfmjepmkjaa.Mem Go.Proofs.Ytabomfmjepmkjaa.Txt
def bof (es : Fs) : BS := ⟨es.map (·.1), es.map (fun x => txtI x.2.1), es.map (fun x => (x.2.2 : Int))⟩
theorem txtI_append (a b : List Int) : txtI (a ++ b) = txtI a ++ txtI b := by
  unfold txtI
  rw [str_append, ByteArray.data_append, Array.toList_append]
theorem set_same {α : Type} {l : List α} {i : Nat} {a : α} (h : l[i]? = some a) : l.set i a = l := by
  apply List.ext_getElem?
  intro j
  rw [List.getElem?_set]
  by_cases e : i = j
  · subst e
    rw [if_pos rfl, if_pos (List.getElem?_eq_some_iff.1 h).1, h]
  · rw [if_neg e]
theorem era_map {α β : Type} (f : α → β) : ∀ (l : List α) (i : Nat), (l.map f).eraseIdx i = (l.eraseIdx i).map f
  | [], i => rfl
  | x :: l, 0 => rfl
  | x :: l, i + 1 => by simp only [List.map_cons, List.eraseIdx_cons_succ, era_map f l i]
theorem idx_of (es : Fs) (s : T) : idxT (bof es).names s = match es.findIdx? (hasName s) with | some i => (i : Int) | none => -1 := by
  unfold idxT bof
  rw [List.findIdx?_map]
  rfl
theorem fidx_some {es : Fs} (hn : Nd es) {s : T} {i : Nat} (h : es.findIdx? (hasName s) = some i) : ∃ v, es[i]? = some (s, v) ∧ look es s = some v := by
  obtain ⟨hi, h1, _⟩ := List.findIdx?_eq_some_iff_getElem.1 h
  have h2 : es[i].1 = s := of_decide_eq_true h1
  refine ⟨es[i].2, ?_, ?_⟩
  · rw [List.getElem?_eq_getElem hi, ← h2]
  · rw [← h2]; exact look_mem hn (List.getElem_mem hi)
theorem idx_no {es : Fs} {s : T} (h : es.findIdx? (hasName s) = none) : look es s = none :=
  look_not (fun x hx => by
    have := List.findIdx?_eq_none_iff.1 h x hx
    exact of_decide_eq_false this)
theorem put_some {es : Fs} {s : T} {i : Nat} (h : es.findIdx? (hasName s) = some i) (v : Fv) : putF es s v = es.set i (s, v) := by unfold putF; rw [h]
theorem put_none {es : Fs} {s : T} (h : es.findIdx? (hasName s) = none) (v : Fv) : putF es s v = es ++ [(s, v)] := by unfold putF; rw [h]
def appF (es : Fs) (s : T) (xs : List Int) : Fs := match look es s with | some v => putF es s (v.1 ++ xs, v.2) | none => putF es s (xs, 0)
theorem put_of {es : Fs} (hn : Nd es) (s : T) (xs : List Int) : (bof es).put s (txtI xs) = bof (appF es s xs) := by
  unfold BS.put appF
  rw [idx_of]
  cases hf : es.findIdx? (hasName s) with
  | none =>
    simp only
    rw [if_neg (by decide), idx_no hf]
    simp only
    rw [put_none hf]
    simp [bof]
  | some i =>
    obtain ⟨v, hv, hl⟩ := fidx_some hn hf
    simp only
    rw [if_pos (by omega), hl, Int.toNat_natCast]
    simp only
    rw [put_some hf]
    unfold bof
    simp only [List.map_set]
    rw [set_same (l := es.map (·.1)) (by rw [List.getElem?_map, hv]; rfl), set_same (l := es.map fun x => (x.2.2 : Int)) (a := (v.2 : Int)) (by rw [List.getElem?_map, hv]; rfl)]
    rw [List.getD_eq_getElem?_getD, List.getElem?_map, hv, txtI_append]
    rfl
theorem sync_of {es : Fs} (hn : Nd es) (s : T) : (if 0 ≤ idxT (bof es).names s then { bof es with syn := (bof es).syn.set (idxT (bof es).names s).toNat ((bof es).bytes.getD (idxT (bof es).names s).toNat []).length } else bof es) = bof (syncF es s) := by
  unfold syncF
  rw [idx_of]
  cases hf : es.findIdx? (hasName s) with
  | none =>
    simp only
    rw [if_neg (by decide), idx_no hf]
  | some i =>
    obtain ⟨v, hv, hl⟩ := fidx_some hn hf
    simp only
    rw [if_pos (by omega), hl, Int.toNat_natCast]
    simp only
    rw [put_some hf]
    have hlen : (txtI v.1).length = v.1.length := by unfold txtI; simp [strOfNums]
    unfold bof
    simp only [List.map_set]
    rw [set_same (l := es.map (·.1)) (by rw [List.getElem?_map, hv]; rfl), set_same (l := es.map fun x => txtI x.2.1) (a := txtI v.1) (by rw [List.getElem?_map, hv]; rfl)]
    rw [List.getD_eq_getElem?_getD, List.getElem?_map, hv]
    show BS.mk _ _ (List.set _ i ((txtI v.1).length : Int)) = _
    rw [hlen]
theorem out_eq (es : Fs) (i : Nat) : (bof es).out i = bof (es.eraseIdx i) := by
  unfold BS.out bof
  simp only [era_map]
theorem out_of (es : Fs) (s : T) : (if 0 ≤ idxT (bof es).names s then (bof es).out (idxT (bof es).names s).toNat else bof es) = bof (delF es s) := by
  unfold delF
  rw [idx_of]
  cases hf : es.findIdx? (hasName s) with
  | none =>
    simp only
    rw [if_neg (by decide)]
  | some i =>
    simp only
    rw [if_pos (by omega), Int.toNat_natCast, out_eq]
def ren1 (s t : T) (x : T × Fv) : T × Fv := if x.1 = s then (t, x.2) else x
theorem set_ren {es : Fs} (hn : Nd es) {s : T} {i : Nat} {v : Fv} (hv : es[i]? = some (s, v)) (t : T) : es.set i (t, v) = es.map (ren1 s t) := by
  apply List.ext_getElem?
  intro j
  rw [List.getElem?_set, List.getElem?_map]
  obtain ⟨hi, hvi⟩ := List.getElem?_eq_some_iff.1 hv
  by_cases e : i = j
  · subst e
    rw [if_pos rfl, if_pos hi, hv]
    simp [ren1]
  · rw [if_neg e]
    cases hj : es[j]? with
    | none => rfl
    | some x =>
      obtain ⟨hjl, hxj⟩ := List.getElem?_eq_some_iff.1 hj
      have hne : x.1 ≠ s := by
        have hp := List.pairwise_iff_getElem.1 hn
        rcases Nat.lt_or_gt_of_ne e with h | h
        · have := hp i j hi hjl h
          rw [hvi, hxj] at this
          exact fun e => this e.symm
        · have := hp j i hjl hi h
          rw [hvi, hxj] at this
          exact this
      simp [ren1, hne]
theorem move_of {es : Fs} (hn : Nd es) (s t : T) : (bof es).move s t = if (look es s).isSome = true ∧ s ≠ t then bof ((delF es t).map (ren1 s t)) else bof es := by
  unfold BS.move
  rw [idx_of es s]
  cases hf : es.findIdx? (hasName s) with
  | none =>
    simp only
    rw [if_neg (fun h => absurd h.1 (by decide)), idx_no hf, if_neg (fun h => absurd h.1 (by decide))]
  | some i =>
    obtain ⟨v, hv, hl⟩ := fidx_some hn hf
    simp only
    rw [hl]
    by_cases hst : s = t
    · rw [if_neg (show ¬ (0 ≤ (i : Int) ∧ s ≠ t) from fun h => h.2 hst), if_neg (show ¬ ((some v).isSome = true ∧ s ≠ t) from fun h => h.2 hst)]
    · rw [if_pos (show 0 ≤ (i : Int) ∧ s ≠ t from ⟨by omega, hst⟩), if_pos (show (some v).isSome = true ∧ s ≠ t from ⟨rfl, hst⟩), Int.toNat_natCast]
      have e1 : ({ bof es with names := (bof es).names.set i t } : BS) = bof (es.map (ren1 s t)) := by
        rw [← set_ren hn hv]
        unfold bof
        simp only [List.map_set]
        rw [set_same (l := es.map fun x => txtI x.2.1) (a := txtI v.1) (by rw [List.getElem?_map, hv]; rfl), set_same (l := es.map fun x => (x.2.2 : Int)) (a := (v.2 : Int)) (by rw [List.getElem?_map, hv]; rfl)]
      rw [e1, idx_of es t]
      unfold delF
      cases hk : es.findIdx? (hasName t) with
      | none =>
        simp only
        rw [if_neg (by decide)]
      | some k =>
        simp only
        rw [if_pos (by omega), Int.toNat_natCast, out_eq, era_map]
theorem del_not {es : Fs} (hn : Nd es) (t : T) : ∀ x ∈ delF es t, x.1 ≠ t := fun x hx e => by
  have h1 := look_mem (nd_del hn t) hx
  rw [look_del hn, if_pos e] at h1
  cases h1
theorem nd_ren {es : Fs} (hn : Nd es) {s t : T} (hst : s ≠ t) : Nd ((delF es t).map (ren1 s t)) := by
  refine List.pairwise_map.2 ((nd_del hn t).imp_of_mem (fun {a b} ha hb h => ?_))
  have h1 := del_not hn t a ha
  have h2 := del_not hn t b hb
  unfold ren1
  by_cases ea : a.1 = s
  · by_cases eb : b.1 = s
    · exact absurd (ea.trans eb.symm) h
    · rw [if_pos ea, if_neg eb]; exact fun e => h2 e.symm
  · by_cases eb : b.1 = s
    · rw [if_neg ea, if_pos eb]; exact h1
    · rw [if_neg ea, if_neg eb]; exact h
theorem look_ren {es : Fs} (hn : Nd es) {s t : T} (hst : s ≠ t) {v : Fv} (hv : look es s = some v) (nm : T) : look ((delF es t).map (ren1 s t)) nm = if nm = t then some v else if nm = s then none else look es nm := by
  have hR := nd_ren hn hst
  by_cases e1 : nm = t
  · rw [if_pos e1, e1]
    have : (s, v) ∈ delF es t := mem_look (by rw [look_del hn, if_neg hst, hv])
    have h2 : ren1 s t (s, v) ∈ (delF es t).map (ren1 s t) := List.mem_map.2 ⟨_, this, rfl⟩
    have e : ren1 s t (s, v) = (t, v) := if_pos rfl
    rw [e] at h2
    exact look_mem hR h2
  · rw [if_neg e1]
    by_cases e2 : nm = s
    · rw [if_pos e2, e2]
      refine look_not (fun x hx => ?_)
      obtain ⟨y, hy, rfl⟩ := List.mem_map.1 hx
      unfold ren1
      by_cases e : y.1 = s
      · rw [if_pos e]; exact fun e => hst e.symm
      · rw [if_neg e]; exact e
    · rw [if_neg e2]
      cases hl : look es nm with
      | some u =>
        have : (nm, u) ∈ delF es t := mem_look (by rw [look_del hn, if_neg e1, hl])
        have h2 : ren1 s t (nm, u) ∈ (delF es t).map (ren1 s t) := List.mem_map.2 ⟨_, this, rfl⟩
        have e : ren1 s t (nm, u) = (nm, u) := if_neg e2
        rw [e] at h2
        exact look_mem hR h2
      | none =>
        refine look_not (fun x hx => ?_)
        obtain ⟨y, hy, rfl⟩ := List.mem_map.1 hx
        unfold ren1
        by_cases e : y.1 = s
        · rw [if_pos e]; exact fun e => e1 e.symm
        · rw [if_neg e]
          intro e3
          have h3 := look_mem (nd_del hn t) hy
          rw [look_del hn, e3, if_neg e1, hl] at h3
          cases h3
end Go.Proofs.Ytabomfmjepmkjaa.Dk
end

section
namespace Go.Proofs.Ytabomfmjepmkjaa.Dk
set_option linter.unusedVariables false
set_option linter.unusedSimpArgs false
open Go.RowKit Go.Proofs.YtabomfmjepmkjaaW.PrintWords Go.Proofs.Ytabomfmjepmkjaa.Lib Go.Proofs.Ytabomfmjepmkjaa.Mem Go.Proofs.Ytabomfmjepmkjaa.Txt
structure Inv (d : DS) (es : Fs) (i : Nat) : Prop where
  off : d.off = false
  ops : 0 ≤ d.ops ∧ d.ops ≤ i
  ndf : Nd d.fs
  nde : Nd es
  same : ∀ nm, look es nm = look d.fs nm
  named : ∀ x ∈ es, named x.1 = true
  len : es.length ≤ i
  syn : ∀ x ∈ es, x.2.2 ≤ x.2.1.length
theorem Inv.flen {d : DS} {es : Fs} {i : Nat} (h : Inv d es i) : d.fs.length = es.length := (perm_of_look h.ndf h.nde (fun nm => (h.same nm).symm)).length_eq
theorem inv_0 (c : Int) (part : Int) : Inv ⟨false, 0, c, part, []⟩ [] 0 :=
  ⟨rfl, ⟨Int.le_refl _, Int.le_refl _⟩, List.Pairwise.nil, List.Pairwise.nil, fun _ => rfl, fun x h => absurd h List.not_mem_nil, Nat.le_refl _, fun x h => absurd h List.not_mem_nil⟩
theorem Inv.later {d : DS} {es : Fs} {i : Nat} (h : Inv d es i) : Inv d es (i + 1) :=
  ⟨h.off, ⟨h.ops.1, by have := h.ops.2; omega⟩, h.ndf, h.nde, h.same, h.named, by have := h.len; omega, h.syn⟩
section
variable {d : DS} {es : Fs} {i : Nat} {s t : T}
theorem Inv.put (h : Inv d es i) (hs : Dk.named s = true) (v : Fv) (hv : v.2 ≤ v.1.length) : Inv { d with ops := d.ops + 1, fs := putF d.fs s v } (putF es s v) (i + 1) :=
  ⟨h.off, ⟨by have := h.ops; show 0 ≤ d.ops + 1; omega, by have := h.ops; show d.ops + 1 ≤ _; omega⟩, nd_put h.ndf _ _, nd_put h.nde _ _, fun nm => by
    show _ = look (putF d.fs s v) nm
    rw [look_put, look_put, h.same nm],
    fun x hx => by
      rcases mem_put hx with rfl | hx
      · exact hs
      · exact h.named x hx,
    by
      have h1 := len_put es s v
      have h2 := h.len
      by_cases hh : (look es s).isSome = true
      · rw [if_pos hh] at h1; omega
      · rw [if_neg hh] at h1; omega,
    fun x hx => by
      rcases mem_put hx with rfl | hx
      · exact hv
      · exact h.syn x hx⟩
theorem Inv.del (h : Inv d es i) (s : T) : Inv { d with ops := d.ops + 1, fs := delF d.fs s } (delF es s) (i + 1) :=
  ⟨h.off, ⟨by have := h.ops; show 0 ≤ d.ops + 1; omega, by have := h.ops; show d.ops + 1 ≤ _; omega⟩, nd_del h.ndf _, nd_del h.nde _, fun nm => by
    show _ = look (delF d.fs s) nm
    rw [look_del h.nde, look_del h.ndf, h.same nm],
    fun x hx => h.named x (mem_del hx),
    by
      have h1 := len_del es s
      have h2 := h.len
      by_cases hh : (look es s).isSome = true
      · rw [if_pos hh] at h1; omega
      · rw [if_neg hh] at h1; omega,
    fun x hx => h.syn x (mem_del hx)⟩
theorem Inv.ren (h : Inv d es i) (hst : s ≠ t) (ht : Dk.named t = true) {v : Fv} (hv : look es s = some v) : Inv { d with ops := d.ops + 1, fs := putF (delF d.fs s) t v } ((delF es t).map (ren1 s t)) (i + 1) :=
  ⟨h.off, ⟨by have := h.ops; show 0 ≤ d.ops + 1; omega, by have := h.ops; show d.ops + 1 ≤ _; omega⟩, nd_put (nd_del h.ndf _) _ _, nd_ren h.nde hst, fun nm => by
    show _ = look (putF (delF d.fs s) t v) nm
    rw [look_ren h.nde hst hv, look_put, look_del h.ndf, h.same nm],
    fun x hx => by
      obtain ⟨y, hy, rfl⟩ := List.mem_map.1 hx
      unfold ren1
      by_cases e : y.1 = s
      · rw [if_pos e]; exact ht
      · rw [if_neg e]; exact h.named y (mem_del hy),
    by
      have h1 := len_del es t
      have h2 := h.len
      rw [List.length_map]
      by_cases hh : (look es t).isSome = true
      · rw [if_pos hh] at h1; omega
      · rw [if_neg hh] at h1; omega,
    fun x hx => by
      obtain ⟨y, hy, rfl⟩ := List.mem_map.1 hx
      have := h.syn y (mem_del hy)
      unfold ren1
      by_cases e : y.1 = s
      · rw [if_pos e]; exact this
      · rw [if_neg e]; exact this⟩
theorem Inv.back (h : Inv d es i) {v : Fv} (hv : look es s = some v) : Inv { d with ops := d.ops + 1, fs := putF (delF d.fs s) s v } es (i + 1) :=
  ⟨h.off, ⟨by have := h.ops; show 0 ≤ d.ops + 1; omega, by have := h.ops; show d.ops + 1 ≤ _; omega⟩, nd_put (nd_del h.ndf _) _ _, h.nde, fun nm => by
    show _ = look (putF (delF d.fs s) s v) nm
    rw [look_put, look_del h.ndf, ← h.same nm]
    by_cases e : nm = s
    · rw [if_pos e, e, hv]
    · rw [if_neg e, if_neg e], h.named, by have := h.len; omega, h.syn⟩
theorem refuse_no (h : Inv d es i) (hs : Dk.named s = true) : refuse d false [s] = 0 := by simp [refuse, h.off, hs]
theorem refuse_1 (h : Inv d es i) (hs : Dk.named s = true) : refuse d true [s] = if (look es s).isSome = true then 0 else 120 := by
  rw [h.same]
  cases hl : look d.fs s <;> simp [refuse, h.off, hs, hl]
theorem refuse_2 (h : Inv d es i) (hs : Dk.named s = true) (ht : Dk.named t = true) : refuse d true [s, t] = if (look es s).isSome = true then 0 else 120 := by
  rw [h.same]
  cases hl : look d.fs s <;> simp [refuse, h.off, hs, ht, hl]
theorem done_is (d : DS) (f : DS → DS) (hc : d.ops ≠ d.cutAt) : doneS d f = (f { d with ops := d.ops + 1 }, 0) := if_neg hc
theorem idx_look (hn : Nd es) (s : T) : decide (0 ≤ idxT (bof es).names s) = (look es s).isSome := by
  rw [idx_of]
  cases hf : es.findIdx? (hasName s) with
  | none => rw [idx_no hf]; rfl
  | some i =>
    obtain ⟨v, _, hl⟩ := fidx_some hn hf
    rw [hl]
    exact decide_eq_true (by simp)
def noteE (es : Fs) (kind : Int) (s t : T) (xs : List Int) : Fs :=
  if absN kind % 6 = 3 then syncF es s else if absN kind % 6 = 4 then delF es s else if absN kind % 6 = 5 then (if (look es s).isSome = true ∧ s ≠ t then (delF es t).map (ren1 s t) else es) else appF es s xs
structure Kept (d d' : DS) : Prop where
  cut : d'.cutAt = d.cutAt
  part : d'.part = d.part
theorem append_inv (h : Inv d es i) (hi : i < 1000) (hc : d.ops ≠ d.cutAt) (hs : Dk.named s = true) (xs : List Int) : (appendS d s xs).2 = 0 ∧ Inv (appendS d s xs).1 (appF es s xs) (i + 1) ∧ Kept d (appendS d s xs).1 := by
  unfold appendS appF
  rw [if_neg (fun hh => hh (refuse_no h hs)), h.same s]
  cases hl : look d.fs s with
  | some v =>
    simp only
    rw [done_is { d with fs := putF d.fs s (v.1 ++ xs, v.2) } id hc]
    have hm := mem_look ((h.same s).trans hl)
    exact ⟨rfl, h.put hs (v.1 ++ xs, v.2) (by have h3 : v.2 ≤ v.1.length := h.syn _ hm; simp only [List.length_append]; omega), rfl, rfl⟩
  | none =>
    simp only
    rw [if_neg (by have := h.flen; have := h.len; omega), done_is { d with fs := putF d.fs s (xs, 0) } id hc]
    exact ⟨rfl, h.put hs (xs, 0) (Nat.zero_le _), rfl, rfl⟩
theorem sync_inv (h : Inv d es i) (hc : d.ops ≠ d.cutAt) (hs : Dk.named s = true) : ((syncS d s).2 == 0) = (look es s).isSome ∧ Inv (syncS d s).1 (syncF es s) (i + 1) ∧ Kept d (syncS d s).1 := by
  unfold syncS syncF
  rw [refuse_1 h hs, h.same s]
  cases hl : look d.fs s with
  | none => exact ⟨rfl, h.later, rfl, rfl⟩
  | some v =>
    simp only [Option.isSome_some, if_true]
    rw [if_neg (fun hh => hh rfl), done_is _ _ hc]
    have e : syncF d.fs s = putF d.fs s (v.1, v.1.length) := by unfold syncF; rw [hl]
    refine ⟨rfl, ?_, rfl, rfl⟩
    show Inv { d with ops := d.ops + 1, fs := syncF d.fs s } _ _
    rw [e]
    exact h.put hs (v.1, v.1.length) (Nat.le_refl _)
theorem remove_inv (h : Inv d es i) (hc : d.ops ≠ d.cutAt) (hs : Dk.named s = true) : ((removeS d s).2 == 0) = (look es s).isSome ∧ Inv (removeS d s).1 (delF es s) (i + 1) ∧ Kept d (removeS d s).1 := by
  unfold removeS
  rw [refuse_1 h hs]
  cases hl : look es s with
  | none =>
    have e : delF es s = es := by
      unfold delF
      cases hf : es.findIdx? (hasName s) with
      | none => rfl
      | some j => obtain ⟨v, _, h2⟩ := fidx_some h.nde hf; rw [hl] at h2; cases h2
    rw [e]
    exact ⟨rfl, h.later, rfl, rfl⟩
  | some v =>
    simp only [Option.isSome_some, if_true]
    rw [if_neg (fun hh => hh rfl), done_is _ _ hc]
    exact ⟨rfl, h.del s, rfl, rfl⟩
theorem rename_inv (h : Inv d es i) (hc : d.ops ≠ d.cutAt) (hs : Dk.named s = true) (ht : Dk.named t = true) : ((renameS d s t).2 == 0) = (look es s).isSome ∧ Inv (renameS d s t).1 (if (look es s).isSome = true ∧ s ≠ t then (delF es t).map (ren1 s t) else es) (i + 1) ∧ Kept d (renameS d s t).1 := by
  unfold renameS
  rw [refuse_2 h hs ht]
  cases hl : look es s with
  | none =>
    simp only [Option.isSome_none, Bool.false_eq_true, if_false, false_and]
    exact ⟨rfl, h.later, rfl, rfl⟩
  | some v =>
    simp only [Option.isSome_some, if_true, true_and]
    rw [if_neg (fun hh => hh rfl), done_is _ _ hc]
    have e : renF d.fs s t = putF (delF d.fs s) t v := by unfold renF; rw [(h.same s).symm.trans hl]
    refine ⟨rfl, ?_, rfl, rfl⟩
    show Inv { d with ops := d.ops + 1, fs := renF d.fs s t } _ _
    rw [e]
    by_cases hst : s = t
    · subst hst
      rw [if_neg (fun hh => hh rfl)]
      exact h.back hl
    · rw [if_pos hst]
      exact h.ren hst ht hl
theorem note_inv (h : Inv d es i) (hi : i < 1000) (hc : d.ops ≠ d.cutAt) (hs : Dk.named s = true) (ht : Dk.named t = true) (kind : Int) (xs : List Int) :
    (noteS d (bof es) kind s t xs).2.2 = true ∧ (noteS d (bof es) kind s t xs).2.1 = bof (noteE es kind s t xs) ∧ Inv (noteS d (bof es) kind s t xs).1 (noteE es kind s t xs) (i + 1) ∧ Kept d (noteS d (bof es) kind s t xs).1 := by
  unfold noteS noteE
  by_cases h3 : absN kind % 6 = 3
  · rw [if_pos h3, if_pos h3]
    obtain ⟨e, h1, h2⟩ := sync_inv h hc hs
    refine ⟨?_, sync_of h.nde s, h1, h2⟩
    show (((syncS d s).2 == 0) == decide (0 ≤ idxT (bof es).names s)) = true
    rw [e, idx_look h.nde]; exact beq_self_eq_true _
  rw [if_neg h3, if_neg h3]
  by_cases h4 : absN kind % 6 = 4
  · rw [if_pos h4, if_pos h4]
    obtain ⟨e, h1, h2⟩ := remove_inv h hc hs
    refine ⟨?_, out_of es s, h1, h2⟩
    show (((removeS d s).2 == 0) == decide (0 ≤ idxT (bof es).names s)) = true
    rw [e, idx_look h.nde]; exact beq_self_eq_true _
  rw [if_neg h4, if_neg h4]
  by_cases h5 : absN kind % 6 = 5
  · rw [if_pos h5, if_pos h5]
    obtain ⟨e, h1, h2⟩ := rename_inv h hc hs ht
    refine ⟨?_, ?_, h1, h2⟩
    · show (((renameS d s t).2 == 0) == decide (0 ≤ idxT (bof es).names s)) = true
      rw [e, idx_look h.nde]; exact beq_self_eq_true _
    · show (bof es).move s t = _
      rw [move_of h.nde]
      split <;> rfl
  rw [if_neg h5, if_neg h5]
  obtain ⟨e, h1, h2⟩ := append_inv h hi hc hs xs
  refine ⟨?_, put_of h.nde s xs, h1, h2⟩
  show ((appendS d s xs).2 == 0) = true
  rw [e]; rfl
end
end Go.Proofs.Ytabomfmjepmkjaa.Dk
end

section
namespace Go.Proofs.Ytabomfmjepmkjaa.Ext
set_option linter.unusedVariables false
set_option linter.unusedSimpArgs false
open Go.RowKit Go.Proofs.YtabomfmjepmkjaaW.PrintWords
open Go.ChangeShapes Go.WideShapes Go.ChangeAt Go.Deep
def Opens (P : Program) {α : Type} (d : Kd α) (t : TypeId) (Q : α → Prop) : Prop :=
  ∀ (H : Type) (enc : TypeId × Value → H) (W : World) (base : Nat) (held : Bool) (fuel : Nat) (cs : List Value) (x : DataW H × List MemPlace),
    DataW.trod enc P W base (fun _ => true) held fuel t cs = some x → (∀ n ∈ x.1.weights P t, n ≤ reachBytes) → ∃ v, d.K W v cs ∧ Q v
def OpensF (P : Program) {α : Type} (d : Kd α) (o : Nat) (fs : List Field) (Q : α → Prop) : Prop :=
  ∀ (H : Type) (enc : TypeId × Value → H) (W : World) (base : Nat) (held : Bool) (n : Nat) (cs : List Value) (xs : List (DataW H × List MemPlace)),
    cs.length = o + d.sz → xs.length = fs.length →
    (∀ (i : Nat) (f : Field), fs[i]? = some f → DataW.trod enc P W base (fun _ => true) held n f.type ((cs.drop f.offset).take (P.cellsOf f.type)) = xs[i]?) →
    (∀ n ∈ DataW.weightsEach P (fs.map (·.type)) (xs.map (·.1)), n ≤ reachBytes) → ∃ v, d.K W v (cs.drop o) ∧ Q v
theorem opens_int {P : Program} {t : TypeId} {k : IntKind} (ht : P.underlying t = some (.int k)) : Opens P (Kd.int k) t (fun n => (Lit.int k n).wf = true) := by
  intro H enc W base held fuel cs x h _
  obtain ⟨n, rfl, _, hw⟩ := DataW.trod_int ht h
  exact ⟨n, rfl, hw⟩
theorem opens_string {P : Program} {t : TypeId} (ht : P.underlying t = some .string) : Opens P Kd.string t (fun s => s.size ≤ reachBytes) := by
  intro H enc W base held fuel cs x h hw
  obtain ⟨s, rfl, rfl, _⟩ := DataW.trod_string ht h
  refine ⟨s, rfl, ?_⟩
  have := hw s.data.toList.length (by simp [DataW.weights])
  simpa using this
theorem weights_all {H : Type} {P : Program} {e : TypeId} {d : DataW H} : ∀ {ds : List (DataW H)}, d ∈ ds → ∀ n ∈ d.weights P e, n ∈ DataW.weightsAll P e ds
  | [], h, _, _ => by cases h
  | d0 :: ds, h, n, hn => by
    simp only [DataW.weightsAll, List.mem_append]
    rcases List.mem_cons.1 h with rfl | h
    · exact .inl hn
    · exact .inr (weights_all h n hn)
theorem opens_slice {P : Program} {α : Type} {d : Kd α} {t e : TypeId} {ek : Nat} {Q : α → Prop} (ht : P.underlying t = some (.slice e)) (hd : Opens P d e Q) (hc : P.cellsOf e = d.sz) :
    Opens P (Kd.slice ek d) t (fun l => (∀ x ∈ l, Q x) ∧ l.length * P.bytesOf e ≤ reachBytes) := by
  intro H enc W base held fuel cs x h hw
  rcases open_slice ht h with ⟨rfl, _⟩ | ⟨a, len, cap, m, n, D, Pl, rfl, hb, hl, hm, hmm, rfl, hx⟩
  · exact ⟨[], ⟨none, 0, rfl, Nat.le_refl _, Kd.C_nil _ _⟩, by simp, by simp⟩
  have hml : len ≤ m := by rw [hmm]; simpa using hl
  have hat : ∀ i, i < len → ∃ v cs', d.K W v cs' ∧ Q v ∧ W.cells? base (a.add (i * P.cellsOf e)) (P.cellsOf e) = some cs' := by
    intro i hi
    obtain ⟨cs', h1, h2⟩ := hx i (Nat.lt_of_lt_of_le hi hml)
    obtain ⟨v, hv, hq⟩ := hd H enc W base held n cs' _ h2 (fun n hn => hw n (by
      simp only [DataW.weights, ht, List.mem_cons, List.mem_append]
      exact .inr (.inl (weights_all (List.mem_map.2 ⟨i, by simpa using hi, rfl⟩) n hn))))
    exact ⟨v, cs', hv, hq, h1⟩
  have hl2 : ∃ l : List α, l.length = len ∧ ∀ i v, l[i]? = some v → ∃ cs', d.K W v cs' ∧ Q v ∧ W.cells? base (a.add (i * P.cellsOf e)) (P.cellsOf e) = some cs' := by
    clear hw hx hmm hml hm hl h
    induction len with
    | zero => exact ⟨[], rfl, fun i v h => by simp at h⟩
    | succ k ih =>
      obtain ⟨l, hl, hr⟩ := ih (fun i hi => hat i (by omega))
      obtain ⟨v, cs', h1, h2, h3⟩ := hat k (by omega)
      refine ⟨l ++ [v], by simp [hl], fun i u hu => ?_⟩
      by_cases hi : i < l.length
      · rw [List.getElem?_append_left hi] at hu
        exact hr i u hu
      · rw [List.getElem?_append_right (by omega)] at hu
        have hi0 : i - l.length = 0 := by
          rcases hz : i - l.length with _ | q
          · rfl
          · rw [hz] at hu; simp at hu
        rw [hi0] at hu
        simp only [List.getElem?_cons_zero, Option.some.injEq] at hu
        subst hu
        have : i = k := by omega
        subst this
        exact ⟨cs', h1, h2, h3⟩
  obtain ⟨l, rfl, hr⟩ := hl2
  refine ⟨l, ⟨some a, cap, rfl, hl, rfl, Nat.le_trans hl (by simpa [maxLen] using hm), fun _ => ⟨a, rfl, fun j p hj => ?_⟩⟩, ?_, ?_⟩
  · obtain ⟨cs', h1, _, h3⟩ := hr j p hj
    obtain ⟨_, hlen, hcell⟩ := World.cells?_some h3
    refine ⟨cs', d.K_len h1, h1, fun i u hu => ?_⟩
    have hi : i < P.cellsOf e := by have := (List.getElem?_eq_some_iff.1 hu).1; omega
    have := hcell i hi
    rw [Go.Deep.add_add, hu, hc] at this
    exact this
  · intro y hy
    obtain ⟨i, hi⟩ := List.mem_iff_getElem?.1 hy
    obtain ⟨_, _, h2, _⟩ := hr i y hi
    exact h2
  · have := hw (((List.range l.length).map D).length + ((List.range (m - l.length)).map fun j => D (l.length + j)).length |> (· * P.bytesOf e)) (by
      simp [DataW.weights, ht])
    simp only [List.length_map, List.length_range] at this
    exact Nat.le_trans (Nat.mul_le_mul_right _ (Nat.le_add_right _ _)) this
theorem opensF_one {P : Program} {α : Type} {d : Kd α} {o : Nat} {f : Field} {Q : α → Prop} (hd : Opens P d f.type Q) (ho : f.offset = o) (hc : P.cellsOf f.type = d.sz) : OpensF P d o [f] Q := by
  intro H enc W base held n cs xs hl hx ht hw
  match xs, hx with
  | [x0], _ =>
    have h0 := ht 0 f rfl
    rw [ho, hc, List.take_of_length_le (by rw [List.length_drop]; omega)] at h0
    exact hd H enc W base held n _ x0 h0 (fun n hn => hw n (by simpa [DataW.weightsEach] using hn))
theorem opensF_cons {P : Program} {α β : Type} {d : Kd α} {d1 : Kd β} {o : Nat} {f : Field} {fs : List Field} {Q : α → Prop} {Q1 : β → Prop} (hd : Opens P d f.type Q) (ho : f.offset = o) (hc : P.cellsOf f.type = d.sz)
    (hr : OpensF P d1 (o + d.sz) fs Q1) : OpensF P (Kd.pair d d1) o (f :: fs) (fun x => Q x.1 ∧ Q1 x.2) := by
  intro H enc W base held n cs xs hl hx ht hw
  match xs, hx with
  | x0 :: xs, hx =>
    have h0 := ht 0 f rfl
    rw [ho, hc] at h0
    have hlp : cs.length = o + (d.sz + d1.sz) := hl
    obtain ⟨v, hv, hq⟩ := hd H enc W base held n _ x0 h0 (fun n hn => hw n (by
      simp only [List.map_cons, DataW.weightsEach, List.mem_append]; exact .inl hn))
    obtain ⟨v1, hv1, hq1⟩ := hr H enc W base held n cs xs (by omega) (by simpa using hx) (fun i g hg => by simpa using ht (i + 1) g (by simpa using hg)) (fun n hn => hw n (by
      simp only [List.map_cons, DataW.weightsEach, List.mem_append]; exact .inr hn))
    refine ⟨(v, v1), ⟨_, _, ?_, hv, hv1⟩, hq, hq1⟩
    rw [← List.drop_drop, List.take_append_drop]
theorem opens_struct {P : Program} {α : Type} {d : Kd α} {t : TypeId} {fs : Array Field} {Q : α → Prop} (ht : P.underlying t = some (.struct fs)) (hc : P.cellsOf t = d.sz) (hd : OpensF P d 0 fs.toList Q) : Opens P d t Q := by
  intro H enc W base held fuel cs x h hw
  obtain ⟨xs, n, _, rfl, hl, hlen, hf⟩ := DataW.trod_struct ht h
  have := hd H enc W base held n cs xs (by omega) (by simpa using hlen) (fun i f hi => hf i f (by simpa using hi)) (fun n hn => hw n (by simpa [DataW.weights, ht] using hn))
  simpa using this
theorem opens_mono {P : Program} {α : Type} {d : Kd α} {t : TypeId} {Q Q' : α → Prop} (h : Opens P d t Q) (hq : ∀ a, Q a → Q' a) : Opens P d t Q' := by
  intro H enc W base held fuel cs x hx hw
  obtain ⟨v, hv, h1⟩ := h H enc W base held fuel cs x hx hw
  exact ⟨v, hv, hq v h1⟩
theorem opened {P : Program} {α : Type} {d : Kd α} {t : TypeId} {Q : α → Prop} (h : Opens P d t Q) {H : Type} {enc : TypeId × Value → H} {W : World} {base : Nat} {held : Bool} {v : Value} {x : DataW H} {p : List MemPlace}
    (ht : DataW.Trod enc P W base (fun _ => true) held t v x p) {ts : List TypeId} {ds : List (DataW H)} (hsz : (DataW.weightsEach P ts ds).all (· ≤ reachBytes) = true) (j : Nat) (hj : ts[j]? = some t) (hd : ds[j]? = some x) :
    ∃ a, d.K W a v.cells.toList ∧ Q a := by
  obtain ⟨fuel, hf⟩ := ht
  refine h H enc W base held fuel _ _ hf (fun n hn => ?_)
  have := List.all_eq_true.1 hsz n (DataW.weights_mem_each hj hd n hn)
  simpa using this
theorem open_row {P : Program} {α : Type} {d : Kd α} {t e : TypeId} {Q : α → Prop} (O : Opens P d e Q) (hs : P.underlying t = some (.slice e)) (hc : P.cellsOf e = d.sz) {H : Type} {enc : TypeId × Value → H} {W : World} {base b0 : Nat} {held : Bool} {r : Reach} {v : Value}
    {x : DataW H} {p : List MemPlace} (hv : Value.okWide P W r b0 t v) (ht : DataW.Trod enc P W base (fun _ => true) held t v x p) {ts : List TypeId} {ds : List (DataW H)} (hsz : (DataW.weightsEach P ts ds).all (· ≤ reachBytes) = true)
    (j : Nat) (hj : ts[j]? = some t) (hd : ds[j]? = some x) : ∃ A l c, v = .slice A l.length c ∧ l.length ≤ c ∧ d.C W A l.length l ∧ (∀ y ∈ l, Q y) ∧ l.length * P.bytesOf e ≤ reachBytes := by
  obtain ⟨l, hK, hQ, hb⟩ := opened (opens_slice (ek := 0) hs O hc) ht hsz j hj hd
  obtain ⟨A, len, cap, rfl⟩ := okWide_slice hs hv
  obtain ⟨A', c, hcs, hl, hC⟩ := hK
  have hcs' : [Value.slice A len cap] = [Value.slice A' l.length c] := hcs
  injection hcs' with h1 _
  injection h1 with h2 h3 h4
  subst h2; subst h3; subst h4
  exact ⟨A, l, cap, rfl, hl, hC, hQ, hb⟩
end Go.Proofs.Ytabomfmjepmkjaa.Ext
end

section
namespace Go.Proofs.Ytabomfmjepmkjaa.ExtB
set_option linter.unusedVariables false
set_option linter.unusedSimpArgs false
open Go.RowKit Go.Proofs.YtabomfmjepmkjaaW.PrintWords
open Go.ChangeShapes Go.WideShapes Go.ChangeAt Go.Deep
variable {K : Nat}
def Opens (K : Nat) (P : Program) {α : Type} (d : Kd α) (t : TypeId) (Q : α → Prop) : Prop :=
  ∀ (H : Type) (enc : TypeId × Value → H) (W : World) (base : Nat) (held : Bool) (fuel : Nat) (cs : List Value) (x : DataW H × List MemPlace),
    DataW.trod enc P W base (fun _ => true) held fuel t cs = some x → (∀ n ∈ x.1.weights P t, n ≤ K) → ∃ v, d.K W v cs ∧ Q v
def OpensF (K : Nat) (P : Program) {α : Type} (d : Kd α) (o : Nat) (fs : List Field) (Q : α → Prop) : Prop :=
  ∀ (H : Type) (enc : TypeId × Value → H) (W : World) (base : Nat) (held : Bool) (n : Nat) (cs : List Value) (xs : List (DataW H × List MemPlace)),
    cs.length = o + d.sz → xs.length = fs.length →
    (∀ (i : Nat) (f : Field), fs[i]? = some f → DataW.trod enc P W base (fun _ => true) held n f.type ((cs.drop f.offset).take (P.cellsOf f.type)) = xs[i]?) →
    (∀ n ∈ DataW.weightsEach P (fs.map (·.type)) (xs.map (·.1)), n ≤ K) → ∃ v, d.K W v (cs.drop o) ∧ Q v
theorem opens_int {P : Program} {t : TypeId} {k : IntKind} (ht : P.underlying t = some (.int k)) : Opens K P (Kd.int k) t (fun n => (Lit.int k n).wf = true) := by
  intro H enc W base held fuel cs x h _
  obtain ⟨n, rfl, _, hw⟩ := DataW.trod_int ht h
  exact ⟨n, rfl, hw⟩
theorem opens_string {P : Program} {t : TypeId} (ht : P.underlying t = some .string) : Opens K P Kd.string t (fun s => s.size ≤ K) := by
  intro H enc W base held fuel cs x h hw
  obtain ⟨s, rfl, rfl, _⟩ := DataW.trod_string ht h
  refine ⟨s, rfl, ?_⟩
  have := hw s.data.toList.length (by simp [DataW.weights])
  simpa using this
theorem weights_all {H : Type} {P : Program} {e : TypeId} {d : DataW H} : ∀ {ds : List (DataW H)}, d ∈ ds → ∀ n ∈ d.weights P e, n ∈ DataW.weightsAll P e ds
  | [], h, _, _ => by cases h
  | d0 :: ds, h, n, hn => by
    simp only [DataW.weightsAll, List.mem_append]
    rcases List.mem_cons.1 h with rfl | h
    · exact .inl hn
    · exact .inr (weights_all h n hn)
theorem opens_slice {P : Program} {α : Type} {d : Kd α} {t e : TypeId} {ek : Nat} {Q : α → Prop} (ht : P.underlying t = some (.slice e)) (hd : Opens K P d e Q) (hc : P.cellsOf e = d.sz) :
    Opens K P (Kd.slice ek d) t (fun l => (∀ x ∈ l, Q x) ∧ l.length * P.bytesOf e ≤ K) := by
  intro H enc W base held fuel cs x h hw
  rcases open_slice ht h with ⟨rfl, _⟩ | ⟨a, len, cap, m, n, D, Pl, rfl, hb, hl, hm, hmm, rfl, hx⟩
  · exact ⟨[], ⟨none, 0, rfl, Nat.le_refl _, Kd.C_nil _ _⟩, by simp, by simp⟩
  have hml : len ≤ m := by rw [hmm]; simpa using hl
  have hat : ∀ i, i < len → ∃ v cs', d.K W v cs' ∧ Q v ∧ W.cells? base (a.add (i * P.cellsOf e)) (P.cellsOf e) = some cs' := by
    intro i hi
    obtain ⟨cs', h1, h2⟩ := hx i (Nat.lt_of_lt_of_le hi hml)
    obtain ⟨v, hv, hq⟩ := hd H enc W base held n cs' _ h2 (fun n hn => hw n (by
      simp only [DataW.weights, ht, List.mem_cons, List.mem_append]
      exact .inr (.inl (weights_all (List.mem_map.2 ⟨i, by simpa using hi, rfl⟩) n hn))))
    exact ⟨v, cs', hv, hq, h1⟩
  have hl2 : ∃ l : List α, l.length = len ∧ ∀ i v, l[i]? = some v → ∃ cs', d.K W v cs' ∧ Q v ∧ W.cells? base (a.add (i * P.cellsOf e)) (P.cellsOf e) = some cs' := by
    clear hw hx hmm hml hm hl h
    induction len with
    | zero => exact ⟨[], rfl, fun i v h => by simp at h⟩
    | succ k ih =>
      obtain ⟨l, hl, hr⟩ := ih (fun i hi => hat i (by omega))
      obtain ⟨v, cs', h1, h2, h3⟩ := hat k (by omega)
      refine ⟨l ++ [v], by simp [hl], fun i u hu => ?_⟩
      by_cases hi : i < l.length
      · rw [List.getElem?_append_left hi] at hu
        exact hr i u hu
      · rw [List.getElem?_append_right (by omega)] at hu
        have hi0 : i - l.length = 0 := by
          rcases hz : i - l.length with _ | q
          · rfl
          · rw [hz] at hu; simp at hu
        rw [hi0] at hu
        simp only [List.getElem?_cons_zero, Option.some.injEq] at hu
        subst hu
        have : i = k := by omega
        subst this
        exact ⟨cs', h1, h2, h3⟩
  obtain ⟨l, rfl, hr⟩ := hl2
  refine ⟨l, ⟨some a, cap, rfl, hl, rfl, Nat.le_trans hl (by simpa [maxLen] using hm), fun _ => ⟨a, rfl, fun j p hj => ?_⟩⟩, ?_, ?_⟩
  · obtain ⟨cs', h1, _, h3⟩ := hr j p hj
    obtain ⟨_, hlen, hcell⟩ := World.cells?_some h3
    refine ⟨cs', d.K_len h1, h1, fun i u hu => ?_⟩
    have hi : i < P.cellsOf e := by have := (List.getElem?_eq_some_iff.1 hu).1; omega
    have := hcell i hi
    rw [Go.Deep.add_add, hu, hc] at this
    exact this
  · intro y hy
    obtain ⟨i, hi⟩ := List.mem_iff_getElem?.1 hy
    obtain ⟨_, _, h2, _⟩ := hr i y hi
    exact h2
  · have := hw (((List.range l.length).map D).length + ((List.range (m - l.length)).map fun j => D (l.length + j)).length |> (· * P.bytesOf e)) (by
      simp [DataW.weights, ht])
    simp only [List.length_map, List.length_range] at this
    exact Nat.le_trans (Nat.mul_le_mul_right _ (Nat.le_add_right _ _)) this
theorem opensF_one {P : Program} {α : Type} {d : Kd α} {o : Nat} {f : Field} {Q : α → Prop} (hd : Opens K P d f.type Q) (ho : f.offset = o) (hc : P.cellsOf f.type = d.sz) : OpensF K P d o [f] Q := by
  intro H enc W base held n cs xs hl hx ht hw
  match xs, hx with
  | [x0], _ =>
    have h0 := ht 0 f rfl
    rw [ho, hc, List.take_of_length_le (by rw [List.length_drop]; omega)] at h0
    exact hd H enc W base held n _ x0 h0 (fun n hn => hw n (by simpa [DataW.weightsEach] using hn))
theorem opensF_cons {P : Program} {α β : Type} {d : Kd α} {d1 : Kd β} {o : Nat} {f : Field} {fs : List Field} {Q : α → Prop} {Q1 : β → Prop} (hd : Opens K P d f.type Q) (ho : f.offset = o) (hc : P.cellsOf f.type = d.sz)
    (hr : OpensF K P d1 (o + d.sz) fs Q1) : OpensF K P (Kd.pair d d1) o (f :: fs) (fun x => Q x.1 ∧ Q1 x.2) := by
  intro H enc W base held n cs xs hl hx ht hw
  match xs, hx with
  | x0 :: xs, hx =>
    have h0 := ht 0 f rfl
    rw [ho, hc] at h0
    have hlp : cs.length = o + (d.sz + d1.sz) := hl
    obtain ⟨v, hv, hq⟩ := hd H enc W base held n _ x0 h0 (fun n hn => hw n (by
      simp only [List.map_cons, DataW.weightsEach, List.mem_append]; exact .inl hn))
    obtain ⟨v1, hv1, hq1⟩ := hr H enc W base held n cs xs (by omega) (by simpa using hx) (fun i g hg => by simpa using ht (i + 1) g (by simpa using hg)) (fun n hn => hw n (by
      simp only [List.map_cons, DataW.weightsEach, List.mem_append]; exact .inr hn))
    refine ⟨(v, v1), ⟨_, _, ?_, hv, hv1⟩, hq, hq1⟩
    rw [← List.drop_drop, List.take_append_drop]
theorem opens_struct {P : Program} {α : Type} {d : Kd α} {t : TypeId} {fs : Array Field} {Q : α → Prop} (ht : P.underlying t = some (.struct fs)) (hc : P.cellsOf t = d.sz) (hd : OpensF K P d 0 fs.toList Q) : Opens K P d t Q := by
  intro H enc W base held fuel cs x h hw
  obtain ⟨xs, n, _, rfl, hl, hlen, hf⟩ := DataW.trod_struct ht h
  have := hd H enc W base held n cs xs (by omega) (by simpa using hlen) (fun i f hi => hf i f (by simpa using hi)) (fun n hn => hw n (by simpa [DataW.weights, ht] using hn))
  simpa using this
theorem opens_mono {P : Program} {α : Type} {d : Kd α} {t : TypeId} {Q Q' : α → Prop} (h : Opens K P d t Q) (hq : ∀ a, Q a → Q' a) : Opens K P d t Q' := by
  intro H enc W base held fuel cs x hx hw
  obtain ⟨v, hv, h1⟩ := h H enc W base held fuel cs x hx hw
  exact ⟨v, hv, hq v h1⟩
theorem opened {P : Program} {α : Type} {d : Kd α} {t : TypeId} {Q : α → Prop} (h : Opens K P d t Q) {H : Type} {enc : TypeId × Value → H} {W : World} {base : Nat} {held : Bool} {v : Value} {x : DataW H} {p : List MemPlace}
    (ht : DataW.Trod enc P W base (fun _ => true) held t v x p) {ts : List TypeId} {ds : List (DataW H)} (hsz : (DataW.weightsEach P ts ds).all (· ≤ K) = true) (j : Nat) (hj : ts[j]? = some t) (hd : ds[j]? = some x) :
    ∃ a, d.K W a v.cells.toList ∧ Q a := by
  obtain ⟨fuel, hf⟩ := ht
  refine h H enc W base held fuel _ _ hf (fun n hn => ?_)
  have := List.all_eq_true.1 hsz n (DataW.weights_mem_each hj hd n hn)
  simpa using this
theorem open_row {P : Program} {α : Type} {d : Kd α} {t e : TypeId} {Q : α → Prop} (O : Opens K P d e Q) (hs : P.underlying t = some (.slice e)) (hc : P.cellsOf e = d.sz) {H : Type} {enc : TypeId × Value → H} {W : World} {base b0 : Nat} {held : Bool} {r : Reach} {v : Value}
    {x : DataW H} {p : List MemPlace} (hv : Value.okWide P W r b0 t v) (ht : DataW.Trod enc P W base (fun _ => true) held t v x p) {ts : List TypeId} {ds : List (DataW H)} (hsz : (DataW.weightsEach P ts ds).all (· ≤ K) = true)
    (j : Nat) (hj : ts[j]? = some t) (hd : ds[j]? = some x) : ∃ A l c, v = .slice A l.length c ∧ l.length ≤ c ∧ d.C W A l.length l ∧ (∀ y ∈ l, Q y) ∧ l.length * P.bytesOf e ≤ K := by
  obtain ⟨l, hK, hQ, hb⟩ := opened (opens_slice (ek := 0) hs O hc) ht hsz j hj hd
  obtain ⟨A, len, cap, rfl⟩ := okWide_slice hs hv
  obtain ⟨A', c, hcs, hl, hC⟩ := hK
  have hcs' : [Value.slice A len cap] = [Value.slice A' l.length c] := hcs
  injection hcs' with h1 _
  injection h1 with h2 h3 h4
  subst h2; subst h3; subst h4
  exact ⟨A, l, cap, rfl, hl, hC, hQ, hb⟩
end Go.Proofs.Ytabomfmjepmkjaa.ExtB
end

section
namespace Go.Proofs.Ytabomfmjepmkjaa.Lib
set_option linter.unusedVariables false
set_option linter.unusedSimpArgs false
open Go.RowKit Go.Proofs.YtabomfmjepmkjaaW.PrintWords
open Go.ChangeShapes Go.WideShapes Go.ChangeAt
theorem bulk_one {H : Type} (d : DataW H) : 1 ≤ Rows.uptoBulk d := by
  cases d with
  | lit l => cases l <;> simp [Rows.uptoBulk]
  | nil => simp [Rows.uptoBulk]
  | ptr d => simp [Rows.uptoBulk]
  | slice elems spare => simp [Rows.uptoBulk]
  | agg parts => simp [Rows.uptoBulk]
  | iface t d => simp [Rows.uptoBulk]
  | map entries => simp [Rows.uptoBulk]
  | held h => simp [Rows.uptoBulk]
theorem bulk_length {H : Type} (l : List (DataW H)) : l.length ≤ Rows.uptoBulkAll l := by
  induction l with
  | nil => simp [Rows.uptoBulkAll]
  | cons x r ih => have := bulk_one x; simp only [Rows.uptoBulkAll, List.length_cons]; omega
theorem bulk_slice {H : Type} (elems spare : List (DataW H)) : Rows.uptoBulk (.slice elems spare) = Rows.uptoBulkAll elems + Rows.uptoBulkAll spare + 1 := by
  simp only [Rows.uptoBulk]
theorem bulk_cons {H : Type} (x : DataW H) (r : List (DataW H)) : Rows.uptoBulkAll (x :: r) = Rows.uptoBulk x + Rows.uptoBulkAll r := by
  simp only [Rows.uptoBulkAll]
end Go.Proofs.Ytabomfmjepmkjaa.Lib
end

section
namespace Go.Proofs.Ytabomfmjepmkjaa.Lib
set_option linter.unusedVariables false
set_option linter.unusedSimpArgs false
open Go.RowKit Go.Proofs.YtabomfmjepmkjaaW.PrintWords
open Go.ChangeShapes Go.WideShapes Go.ChangeAt Go.Deep
theorem bulk_entries {H : Type} (l : List (Lit × DataW H)) : l.length ≤ Rows.uptoBulkEntries l := by
  induction l with
  | nil => simp [Rows.uptoBulkEntries]
  | cons x r ih =>
    have : 1 ≤ Rows.uptoBulkEntry x := by
      obtain ⟨k, d⟩ := x
      have := bulk_one d
      cases k <;> simp only [Rows.uptoBulkEntry] <;> omega
    simp only [Rows.uptoBulkEntries, List.length_cons]
    omega
def goodT (P : Program) (N M : Nat) (t : TypeId) : Bool :=
  match P.underlying t with
  | some (.pointer e) => decide (e < N)
  | some (.slice e) => decide (e < N) && decide (P.bytesOf e ≤ M)
  | some (.struct fs) => fs.toList.all fun f => decide (f.type < N)
  | some (.array _ e) => decide (e < N)
  | some (.map k e) => decide (e < N) && (decide (P.bytesOf k ≤ M) && decide (P.bytesOf e ≤ M))
  | _ => true
section
variable {H : Type} {P : Program} {N M : Nat}
mutual
theorem weights_le (hM : ∀ t, t < N → goodT P N M t = true) (h1 : 1 ≤ M) : ∀ (d : DataW H) (t : TypeId), t < N → ∀ n ∈ d.weights P t, n ≤ Rows.uptoBulk d * (2 * M)
  | .lit l, t, ht, n, hn => by
    cases l with
    | string bytes =>
      simp only [DataW.weights, List.mem_singleton] at hn
      subst hn
      simp only [Rows.uptoBulk]
      exact Nat.le_trans (Nat.le_succ _) (Nat.le_mul_of_pos_right _ (by omega))
    | _ => simp [DataW.weights] at hn
  | .nil, t, ht, n, hn => by simp [DataW.weights] at hn
  | .ptr d, t, ht, n, hn => by
    simp only [DataW.weights] at hn
    have g := hM t ht
    unfold goodT at g
    split at hn
    · rename_i e he
      rw [he] at g
      have := weights_le hM h1 d _ (of_decide_eq_true g) n hn
      simp only [Rows.uptoBulk]
      exact Nat.le_trans this (Nat.mul_le_mul_right _ (Nat.le_succ _))
    · simp at hn
  | .slice elems spare, t, ht, n, hn => by
    simp only [DataW.weights] at hn
    have g := hM t ht
    unfold goodT at g
    split at hn
    · rename_i e he
      rw [he] at g
      simp only [Bool.and_eq_true, decide_eq_true_eq] at g
      rw [bulk_slice]
      rcases List.mem_cons.1 hn with rfl | hn
      · have a1 := bulk_length elems
        have a2 := bulk_length spare
        exact Nat.mul_le_mul (by omega) (Nat.le_trans g.2 (by omega))
      · rcases List.mem_append.1 hn with hn | hn
        · exact Nat.le_trans (weights_all_le hM h1 elems e g.1 n hn) (Nat.mul_le_mul_right _ (by omega))
        · exact Nat.le_trans (weights_all_le hM h1 spare e g.1 n hn) (Nat.mul_le_mul_right _ (by omega))
    · simp at hn
  | .agg parts, t, ht, n, hn => by
    simp only [DataW.weights] at hn
    simp only [Rows.uptoBulk]
    have g := hM t ht
    unfold goodT at g
    split at hn
    · rename_i fs he
      rw [he] at g
      exact Nat.le_trans (weights_each_le hM h1 parts _ (fun u hu => by
        obtain ⟨f, hf, rfl⟩ := List.mem_map.1 hu
        exact of_decide_eq_true (List.all_eq_true.1 g f hf)) n hn) (Nat.mul_le_mul_right _ (Nat.le_succ _))
    · rename_i e he
      rw [he] at g
      exact Nat.le_trans (weights_all_le hM h1 parts _ (of_decide_eq_true g) n hn) (Nat.mul_le_mul_right _ (Nat.le_succ _))
    · simp at hn
  | .iface _ _, t, ht, n, hn => by simp [DataW.weights] at hn
  | .map entries, t, ht, n, hn => by
    simp only [DataW.weights] at hn
    simp only [Rows.uptoBulk]
    have g := hM t ht
    unfold goodT at g
    split at hn
    · rename_i k e he
      rw [he] at g
      simp only [Bool.and_eq_true, decide_eq_true_eq] at g
      rcases List.mem_cons.1 hn with rfl | hn
      · have a1 := bulk_entries entries
        have b1 := g.2.1
        have b2 := g.2.2
        exact Nat.mul_le_mul (by omega) (by omega)
      · exact Nat.le_trans (weights_entries_le hM h1 entries e g.1 n hn) (Nat.mul_le_mul_right _ (Nat.le_succ _))
    · simp at hn
  | .held _, t, ht, n, hn => by simp [DataW.weights] at hn
theorem weights_all_le (hM : ∀ t, t < N → goodT P N M t = true) (h1 : 1 ≤ M) : ∀ (l : List (DataW H)) (t : TypeId), t < N → ∀ n ∈ DataW.weightsAll P t l, n ≤ Rows.uptoBulkAll l * (2 * M)
  | [], t, ht, n, hn => by simp [DataW.weightsAll] at hn
  | d :: r, t, ht, n, hn => by
    simp only [DataW.weightsAll, List.mem_append] at hn
    rw [bulk_cons]
    rcases hn with hn | hn
    · exact Nat.le_trans (weights_le hM h1 d t ht n hn) (Nat.mul_le_mul_right _ (Nat.le_add_right _ _))
    · exact Nat.le_trans (weights_all_le hM h1 r t ht n hn) (Nat.mul_le_mul_right _ (Nat.le_add_left _ _))
theorem weights_each_le (hM : ∀ t, t < N → goodT P N M t = true) (h1 : 1 ≤ M) : ∀ (l : List (DataW H)) (ts : List TypeId), (∀ t ∈ ts, t < N) → ∀ n ∈ DataW.weightsEach P ts l, n ≤ Rows.uptoBulkAll l * (2 * M)
  | [], ts, ht, n, hn => by cases ts <;> simp [DataW.weightsEach] at hn
  | d :: r, [], ht, n, hn => by simp [DataW.weightsEach] at hn
  | d :: r, t :: ts, ht, n, hn => by
    simp only [DataW.weightsEach, List.mem_append] at hn
    rw [bulk_cons]
    rcases hn with hn | hn
    · exact Nat.le_trans (weights_le hM h1 d t (ht t (by simp)) n hn) (Nat.mul_le_mul_right _ (Nat.le_add_right _ _))
    · exact Nat.le_trans (weights_each_le hM h1 r ts (fun u hu => ht u (by simp [hu])) n hn) (Nat.mul_le_mul_right _ (Nat.le_add_left _ _))
theorem weights_entries_le (hM : ∀ t, t < N → goodT P N M t = true) (h1 : 1 ≤ M) : ∀ (l : List (Lit × DataW H)) (t : TypeId), t < N → ∀ n ∈ DataW.weightsEntries P t l, n ≤ Rows.uptoBulkEntries l * (2 * M)
  | [], t, ht, n, hn => by simp [DataW.weightsEntries] at hn
  | x :: r, t, ht, n, hn => by
    simp only [DataW.weightsEntries, List.mem_append] at hn
    simp only [Rows.uptoBulkEntries]
    rcases hn with hn | hn
    · exact Nat.le_trans (weights_entry_le hM h1 x t ht n hn) (Nat.mul_le_mul_right _ (Nat.le_add_right _ _))
    · exact Nat.le_trans (weights_entries_le hM h1 r t ht n hn) (Nat.mul_le_mul_right _ (Nat.le_add_left _ _))
theorem weights_entry_le (hM : ∀ t, t < N → goodT P N M t = true) (h1 : 1 ≤ M) : ∀ (x : Lit × DataW H) (t : TypeId), t < N → ∀ n ∈ DataW.weightsEntry P t x, n ≤ Rows.uptoBulkEntry x * (2 * M)
  | (k, d), t, ht, n, hn => by
    have h := weights_le hM h1 d t ht
    cases k with
    | string bytes =>
      simp only [DataW.weightsEntry, List.mem_cons] at hn
      simp only [Rows.uptoBulkEntry]
      rcases hn with rfl | hn
      · exact Nat.le_trans (show bytes.length ≤ bytes.length + Rows.uptoBulk d + 1 by omega) (Nat.le_mul_of_pos_right _ (by omega))
      · exact Nat.le_trans (h n hn) (Nat.mul_le_mul_right _ (by omega))
    | _ =>
      simp only [DataW.weightsEntry] at hn
      simp only [Rows.uptoBulkEntry]
      exact Nat.le_trans (h n hn) (Nat.mul_le_mul_right _ (by omega))
end
end
theorem good_all {P : Program} {N M : Nat} (h : (List.range N).all (goodT P N M) = true) : ∀ t, t < N → goodT P N M t = true := fun t ht => List.all_eq_true.1 h t (List.mem_range.2 ht)
theorem upto_sized {H : Type} {P : Program} {N M : Nat} (hM : (List.range N).all (goodT P N M) = true) (h1 : 1 ≤ M) (h2 : M ≤ 33554432) {ds : List (DataW H)} (hk : Rows.uptoSmall H ds = true) (ts : List TypeId) (hts : ts.all (fun t => decide (t < N)) = true) : (DataW.weightsEach P ts ds).all (· ≤ reachBytes) = true := by
  have hb : Rows.uptoBulkAll ds ≤ 1048576 := of_decide_eq_true hk
  rw [List.all_eq_true]
  intro n hn
  have h3 := weights_each_le (good_all hM) h1 ds ts (fun t ht => of_decide_eq_true (List.all_eq_true.1 hts t ht)) n hn
  have h4 : Rows.uptoBulkAll ds * (2 * M) ≤ 1048576 * 67108864 := Nat.mul_le_mul hb (by omega)
  have h5 : 1048576 * 67108864 ≤ reachBytes := by decide
  exact decide_eq_true (by omega)
end Go.Proofs.Ytabomfmjepmkjaa.Lib
end

section
namespace Go.Proofs.Ytabomfmjepmkjaa.Dk
set_option linter.unusedVariables false
set_option linter.unusedSimpArgs false
open Go.RowKit Go.Proofs.YtabomfmjepmkjaaW.PrintWords Go.Proofs.Ytabomfmjepmkjaa.Lib Go.Proofs.Ytabomfmjepmkjaa.Mem Go.Proofs.Ytabomfmjepmkjaa.Txt Go.Proofs.Ytabomfmjepmkjaa.ExtB
abbrev OpV := Int × ByteArray × ByteArray × List Int × Int
def kOp : Kd OpV := Kd.pair (Kd.int .i64) (Kd.pair Kd.string (Kd.pair Kd.string (Kd.pair (Kd.slice 5 (Kd.int .u8)) (Kd.int .i64))))
def zOp : OpV := (0, .empty, .empty, [], 0)
def KB : Nat := 8589934592
def OpOk (x : OpV) : Prop := (Lit.int .i64 x.1).wf = true ∧ x.2.1.size ≤ KB ∧ x.2.2.1.size ≤ KB ∧ x.2.2.2.1.length ≤ KB ∧ (Lit.int .i64 x.2.2.2.2).wf = true
set_option maxRecDepth 100000 in
theorem opens_op : Opens KB Try.prog kOp 44 OpOk := by
  refine opens_mono (Q := fun x => (Lit.int .i64 x.1).wf = true ∧ x.2.1.size ≤ KB ∧ x.2.2.1.size ≤ KB ∧ ((∀ n ∈ x.2.2.2.1, (Lit.int .u8 n).wf = true) ∧ x.2.2.2.1.length * Try.prog.bytesOf 5 ≤ KB) ∧ (Lit.int .i64 x.2.2.2.2).wf = true) ?_ (fun x h => ⟨h.1, h.2.1, h.2.2.1, ?_, h.2.2.2.2⟩)
  · refine opens_struct Try.underlying44 (by kernel_rfl) ?_
    show OpensF _ _ (Kd.pair _ _) 0 [_, _, _, _, _] _
    refine opensF_cons (Q := fun n => (Lit.int .i64 n).wf = true) (Q1 := fun x : ByteArray × ByteArray × List Int × Int => x.1.size ≤ KB ∧ x.2.1.size ≤ KB ∧ ((∀ n ∈ x.2.2.1, (Lit.int .u8 n).wf = true) ∧ x.2.2.1.length * Try.prog.bytesOf 5 ≤ KB) ∧ (Lit.int .i64 x.2.2.2).wf = true) ?_ ?_ ?_ ?_
    · exact opens_int (k := .i64) (by kernel_rfl)
    · rfl
    · kernel_rfl
    refine opensF_cons (Q := fun s : ByteArray => s.size ≤ KB) (Q1 := fun x : ByteArray × List Int × Int => x.1.size ≤ KB ∧ ((∀ n ∈ x.2.1, (Lit.int .u8 n).wf = true) ∧ x.2.1.length * Try.prog.bytesOf 5 ≤ KB) ∧ (Lit.int .i64 x.2.2).wf = true) ?_ ?_ ?_ ?_
    · exact opens_string (by kernel_rfl)
    · rfl
    · kernel_rfl
    refine opensF_cons (Q := fun s : ByteArray => s.size ≤ KB) (Q1 := fun x : List Int × Int => ((∀ n ∈ x.1, (Lit.int .u8 n).wf = true) ∧ x.1.length * Try.prog.bytesOf 5 ≤ KB) ∧ (Lit.int .i64 x.2).wf = true) ?_ ?_ ?_ ?_
    · exact opens_string (by kernel_rfl)
    · rfl
    · kernel_rfl
    refine opensF_cons (Q := fun l : List Int => (∀ n ∈ l, (Lit.int .u8 n).wf = true) ∧ l.length * Try.prog.bytesOf 5 ≤ KB) (Q1 := fun n => (Lit.int .i64 n).wf = true) ?_ ?_ ?_ ?_
    · exact opens_slice Try.underlying22 (opens_int (k := .u8) (by kernel_rfl)) (by kernel_rfl)
    · rfl
    · kernel_rfl
    refine opensF_one ?_ ?_ ?_
    · exact opens_int (k := .i64) (by kernel_rfl)
    · rfl
    · kernel_rfl
  · have h1 := h.2.2.2.1.2
    rw [show Try.prog.bytesOf 5 = 1 by kernel_rfl, Nat.mul_one] at h1
    exact h1
theorem kOp_open {w : World} {x : OpV} {cs : List Value} (h : kOp.K w x cs) : ∃ B c, cs = [.int .i64 x.1, .string x.2.1, .string x.2.2.1, .slice B x.2.2.2.1.length c, .int .i64 x.2.2.2.2] ∧ x.2.2.2.1.length ≤ c ∧ Kd.C (Kd.int .u8) w B x.2.2.2.1.length x.2.2.2.1 := by
  obtain ⟨_, _, rfl, rfl, ⟨_, _, rfl, rfl, ⟨_, _, rfl, rfl, ⟨_, _, rfl, ⟨B, c, rfl, l1, g1⟩, rfl⟩⟩⟩⟩ := h
  exact ⟨B, c, rfl, l1, g1⟩
theorem at_op {w : World} {A : Option Addr} {n : Nat} {xs : List OpV} (h : Kd.C kOp w A n xs) (i : Nat) (hi : i < n) : ∃ ad B c, A = some ad ∧ w.cell? (ad.add (i * 5)) = some (.int .i64 (xs.getD i zOp).1) ∧ w.cell? ⟨(ad.add (i * 5)).block, (ad.add (i * 5)).off + 1, none⟩ = some (.string (xs.getD i zOp).2.1) ∧ w.cell? ⟨(ad.add (i * 5)).block, (ad.add (i * 5)).off + 2, none⟩ = some (.string (xs.getD i zOp).2.2.1) ∧
    w.cell? ⟨(ad.add (i * 5)).block, (ad.add (i * 5)).off + 3, none⟩ = some (.slice B (xs.getD i zOp).2.2.2.1.length c) ∧ w.cell? ⟨(ad.add (i * 5)).block, (ad.add (i * 5)).off + 4, none⟩ = some (.int .i64 (xs.getD i zOp).2.2.2.2) ∧ (xs.getD i zOp).2.2.2.1.length ≤ c ∧ Kd.C (Kd.int .u8) w B (xs.getD i zOp).2.2.2.1.length (xs.getD i zOp).2.2.2.1 := by
  obtain ⟨ad, c, e, _, hK, hc0⟩ := Kd.C_get h zOp (i : Int) (by omega) (by omega)
  rw [Int.toNat_natCast] at hK hc0
  have hc : ∀ j u, c[j]? = some u → w.cell? (ad.add (i * 5 + j)) = some u := hc0
  obtain ⟨B, c1, rfl, l1, g1⟩ := kOp_open hK
  exact ⟨ad, B, c1, e, hc 0 _ rfl, by rw [← add_field _ _ 1 (by omega)]; exact hc 1 _ rfl, by rw [← add_field _ _ 2 (by omega)]; exact hc 2 _ rfl, by rw [← add_field _ _ 3 (by omega)]; exact hc 3 _ rfl, by rw [← add_field _ _ 4 (by omega)]; exact hc 4 _ rfl, l1, g1⟩
end Go.Proofs.Ytabomfmjepmkjaa.Dk
end

section
namespace Go.Proofs
open Go.Shelf
def Try.lays190_ren : Go.Shelf.Ren := ⟨fun | 190 => 58 | 125 => 70 | 258 => 69 | 128 => 80 | 129 => 81 | 302 => 71 | 303 => 72 | 304 => 73 | 305 => 74 | 306 => 75 | 307 => 76 | 308 => 77 | 309 => 78 | 310 => 79 | 333 => 82 | 329 => 83 | 330 => 84 | 334 => 85 | 335 => 86 | 336 => 87 | 344 => 88 | n => n, fun | 31 => 36 | 9 => 9 | 3 => 3 | 46 => 88 | 0 => 0 | 51 => 98 | 53 => 100 | 4 => 4 | 183 => 91 | 182 => 90 | 131 => 95 | 5 => 5 | 218 => 101 | 222 => 105 | 228 => 107 | 229 => 108 | n => n, fun | n => n⟩
theorem Try.lays190 : Go.Proofs.Lays.n190 Try.prog Try.lays190_ren := {
  mixed := by kernel_rfl
  f125 := Try.func70.trans (congrArg some (by kernel_rfl))
  f128 := Try.func80.trans (congrArg some (by kernel_rfl))
  f129 := Try.func81.trans (congrArg some (by kernel_rfl))
  f190 := Try.func58.trans (congrArg some (by kernel_rfl))
  f258 := Try.func69.trans (congrArg some (by kernel_rfl))
  f302 := Try.func71.trans (congrArg some (by kernel_rfl))
  f303 := Try.func72.trans (congrArg some (by kernel_rfl))
  f304 := Try.func73.trans (congrArg some (by kernel_rfl))
  f305 := Try.func74.trans (congrArg some (by kernel_rfl))
  f306 := Try.func75.trans (congrArg some (by kernel_rfl))
  f307 := Try.func76.trans (congrArg some (by kernel_rfl))
  f308 := Try.func77.trans (congrArg some (by kernel_rfl))
  f309 := Try.func78.trans (congrArg some (by kernel_rfl))
  f310 := Try.func79.trans (congrArg some (by kernel_rfl))
  f329 := Try.func83.trans (congrArg some (by kernel_rfl))
  f330 := Try.func84.trans (congrArg some (by kernel_rfl))
  f333 := Try.func82.trans (congrArg some (by kernel_rfl))
  f334 := Try.func85.trans (congrArg some (by kernel_rfl))
  f335 := Try.func86.trans (congrArg some (by kernel_rfl))
  f336 := Try.func87.trans (congrArg some (by kernel_rfl))
  f344 := Try.func88.trans (congrArg some (by kernel_rfl))
  t0 := Try.underlying0
  a0 := Try.isAgg0
  z0 := Try.sizeOf0
  v0 := Try.zeroValue0
  t3 := Try.underlying3
  a3 := Try.isAgg3
  z3 := Try.sizeOf3
  v3 := Try.zeroValue3
  t4 := Try.underlying4
  a4 := Try.isAgg4
  z4 := Try.sizeOf4
  v4 := Try.zeroValue4
  t5 := Try.underlying5
  a5 := Try.isAgg5
  z5 := Try.sizeOf5
  v5 := Try.zeroValue5
  t9 := Try.underlying9
  a9 := Try.isAgg9
  z9 := Try.sizeOf9
  v9 := Try.zeroValue9
  t31 := Try.underlying36
  a31 := Try.isAgg36
  z31 := Try.sizeOf36
  v31 := Try.zeroValue36
  t46 := Try.underlying88
  a46 := Try.isAgg88
  z46 := Try.sizeOf88
  v46 := Try.zeroValue88
  t51 := Try.underlying98
  a51 := Try.isAgg98
  z51 := Try.sizeOf98
  v51 := Try.zeroValue98
  t53 := Try.underlying100
  a53 := Try.isAgg100
  z53 := Try.sizeOf100
  v53 := Try.zeroValue100
  t131 := Try.underlying95
  a131 := Try.isAgg95
  z131 := Try.sizeOf95
  v131 := Try.zeroValue95
  t182 := Try.underlying90
  a182 := Try.isAgg90
  z182 := Try.sizeOf90
  v182 := Try.zeroValue90
  t183 := Try.underlying91
  a183 := Try.isAgg91
  z183 := Try.sizeOf91
  v183 := Try.zeroValue91
  t218 := Try.underlying101
  a218 := Try.isAgg101
  z218 := Try.sizeOf101
  v218 := Try.zeroValue101
  t222 := Try.underlying105
  a222 := Try.isAgg105
  z222 := Try.sizeOf105
  v222 := Try.zeroValue105
  t228 := Try.underlying107
  a228 := Try.isAgg107
  z228 := Try.sizeOf107
  v228 := Try.zeroValue107
  t229 := Try.underlying108
  a229 := Try.isAgg108
  z229 := Try.sizeOf108
  v229 := Try.zeroValue108 }
open Go.Sort Go.RowKit in
theorem Try.slices_Sort_string (blk off cap : Nat) (ss : List (List UInt8)) (w : World) (hH : Holds encStr w blk off ss.toArray) (hblk : blk < w.heap.size) (hsz : ss.length < 4611686018427387904) :
    Calls Try.prog 58 #[.slice (some ⟨blk, off, none⟩) ss.length cap] w fun e w' =>
      e = .returned (.tuple #[]) ∧ ∃ n os, w' = grow (putRow encStr (Sort.ahead w n) blk off (ss.mergeSort fun x y => decide (x ≤ y)).toArray) os := Any.slices_Sort_string Try.lays190 blk off cap ss w hH hblk hsz
def Try.lays206_ren : Go.Shelf.Ren := ⟨fun | 206 => 61 | n => n, fun | 9 => 9 | 4 => 4 | 3 => 3 | n => n, fun | n => n⟩
theorem Try.lays206 : Go.Proofs.Lays.n206 Try.prog Try.lays206_ren := {
  mixed := by kernel_rfl
  f206 := Try.func61.trans (congrArg some (by kernel_rfl))
  t3 := Try.underlying3
  a3 := Try.isAgg3
  z3 := Try.sizeOf3
  v3 := Try.zeroValue3
  t4 := Try.underlying4
  a4 := Try.isAgg4
  z4 := Try.sizeOf4
  v4 := Try.zeroValue4
  t9 := Try.underlying9
  a9 := Try.isAgg9
  z9 := Try.sizeOf9
  v9 := Try.zeroValue9 }
open Go.RowKit Go.Lib in
theorem Try.stringslite_HasPrefix (s p : ByteArray) (w : World) :
    Calls Try.prog 61 #[.string s, .string p] w fun e w' => e = .returned (.bool (Lib.hasPrefix s.data.toList p.data.toList)) ∧ w' = w := Any.stringslite_HasPrefix Try.lays206 s p w
def Try.lays99_ren : Go.Shelf.Ren := ⟨fun | 99 => 43 | 206 => 61 | n => n, fun | 9 => 9 | 4 => 4 | 3 => 3 | n => n, fun | n => n⟩
theorem Try.lays99 : Go.Proofs.Lays.n99 Try.prog Try.lays99_ren := {
  mixed := by kernel_rfl
  f99 := Try.func43.trans (congrArg some (by kernel_rfl))
  f206 := Try.func61.trans (congrArg some (by kernel_rfl))
  t3 := Try.underlying3
  a3 := Try.isAgg3
  z3 := Try.sizeOf3
  v3 := Try.zeroValue3
  t4 := Try.underlying4
  a4 := Try.isAgg4
  z4 := Try.sizeOf4
  v4 := Try.zeroValue4
  t9 := Try.underlying9
  a9 := Try.isAgg9
  z9 := Try.sizeOf9
  v9 := Try.zeroValue9 }
open Go.RowKit Go.Lib in
theorem Try.strings_HasPrefix (s p : ByteArray) (w : World) :
    Calls Try.prog 43 #[.string s, .string p] w fun e w' => e = .returned (.bool (Lib.hasPrefix s.data.toList p.data.toList)) ∧ w' = w := Any.strings_HasPrefix Try.lays99 s p w
open Go.RowKit Go.Sort in
theorem Try.slices_Sort_string_none (p : Option Addr) (cap : Nat) (w : World) :
    Calls Try.prog 58 #[.slice p 0 cap] w fun e w' => e = .returned (.tuple #[]) ∧ w' = w := Any.slices_Sort_string_none Try.lays190 p cap w
end Go.Proofs
end

section
namespace Go.Proofs
open Go.Shelf
def Try.keysA_ren : Go.Shelf.Ren := ⟨fun | 7 => 40 | 10 => 59 | n => n, fun | 23 => 62 | 26 => 9 | 3 => 66 | 28 => 74 | 0 => 0 | 27 => 73 | 33 => 77 | 4 => 4 | n => n, fun | n => n⟩
theorem Try.keysA : Go.Proofs.SlLaysZ.n7 Try.prog Try.keysA_ren := {
  mixed := by kernel_rfl
  f7 := ⟨Try.f40.name, by decide, Try.func40.trans (congrArg some (by kernel_rfl))⟩
  f10 := ⟨Try.f59.name, by decide, Try.func59.trans (congrArg some (by kernel_rfl))⟩
  t0 := Try.underlying0
  a0 := Try.isAgg0
  z0 := Try.sizeOf0
  v0 := Try.zeroValue0
  t4 := Try.underlying4
  a4 := Try.isAgg4
  z4 := Try.sizeOf4
  v4 := Try.zeroValue4
  t23 := Try.underlying62
  a23 := Try.isAgg62
  z23 := Try.sizeOf62
  v23 := Try.zeroValue62
  t26 := Try.underlying9
  a26 := Try.isAgg9
  z26 := Try.sizeOf9
  v26 := Try.zeroValue9
  t27 := Try.underlying73
  a27 := Try.isAgg73
  z27 := Try.sizeOf73
  v27 := Try.zeroValue73
  t28 := Try.underlying74
  a28 := Try.isAgg74
  z28 := Try.sizeOf74
  v28 := Try.zeroValue74
  t33 := Try.underlying77
  a33 := Try.isAgg77
  z33 := Try.sizeOf77
  v33 := Try.zeroValue77 }
def Try.sortedA_ren : Go.Shelf.Ren := ⟨fun | 6 => 39 | 8 => 57 | 9 => 58 | 11 => 68 | 13 => 70 | 12 => 69 | 23 => 80 | 24 => 81 | 14 => 71 | 15 => 72 | 16 => 73 | 17 => 74 | 18 => 75 | 19 => 76 | 20 => 77 | 21 => 78 | 22 => 79 | 25 => 82 | 26 => 83 | 27 => 84 | 28 => 85 | 29 => 86 | 30 => 87 | 31 => 88 | n => n, fun | 26 => 9 | 28 => 74 | 24 => 36 | 0 => 0 | 3 => 3 | 37 => 88 | 48 => 98 | 50 => 100 | 4 => 4 | 40 => 91 | 39 => 90 | 45 => 95 | 5 => 5 | 9 => 9 | 51 => 101 | 55 => 105 | 57 => 107 | 58 => 108 | 33 => 77 | n => n, fun | n => n⟩
theorem Try.sortedA : Go.Proofs.SlLaysZ.n6 Try.prog Try.sortedA_ren := {
  mixed := by kernel_rfl
  f6 := ⟨Try.f39.name, by decide, Try.func39.trans (congrArg some (by kernel_rfl))⟩
  f8 := ⟨Try.f57.name, by decide, Try.func57.trans (congrArg some (by kernel_rfl))⟩
  f11 := ⟨Try.f68.name, by decide, Try.func68.trans (congrArg some (by kernel_rfl))⟩
  t0 := Try.underlying0
  a0 := Try.isAgg0
  z0 := Try.sizeOf0
  v0 := Try.zeroValue0
  t24 := Try.underlying36
  a24 := Try.isAgg36
  z24 := Try.sizeOf36
  v24 := Try.zeroValue36
  t26 := Try.underlying9
  a26 := Try.isAgg9
  z26 := Try.sizeOf9
  v26 := Try.zeroValue9
  t28 := Try.underlying74
  a28 := Try.isAgg74
  z28 := Try.sizeOf74
  v28 := Try.zeroValue74
  i26 := by kernel_rfl }
end Go.Proofs
end

section
namespace Go.Proofs.Ytabomfmjepmkjaa.Dk
set_option linter.unusedVariables false
set_option linter.unusedSimpArgs false
open Go.RowKit Go.Proofs.YtabomfmjepmkjaaW.PrintWords Go.Proofs.YtabomfmjepmkjaaW.PrintLast Go.Proofs.YtabomfmjepmkjaaW.PrintMore Go.Proofs.Ytabomfmjepmkjaa.Lib Go.Proofs.Ytabomfmjepmkjaa.Mem Go.Proofs.Ytabomfmjepmkjaa.Txt
open Go.MapKept Go.ChangeMaps Go.Maps Go.Sort Go.Shelf
open Go.WideElems (Fit rd rg pl rd_val rd_mk rg_of)
open Go.WideShapes Go.ChangeShapes
abbrev R0 : Value → Option (DataW Unit × List MemPlace) := fun _ => some (.nil, [])
theorem rd_ent {m : FM} (h : m.name.length ≤ maxLen) : rd Try.prog 9 R0 (ent m) = some (.string m.name, .nil) :=
  WideElems.rd_mk (P := Try.prog) (k := 9) (R := R0) (key := .string (bs m.name)) (val := .pointer (some ⟨m.q, 0, none⟩)) (kl := .string m.name) (yv := (.nil, [])) (born := m.born) (WideMaps.keyOf_string_mk (s := bs m.name) Try.underlying9 h) rfl
theorem owns_disk {w : World} {ok : Nat → Prop} {p mb cl : Nat} {s : DS} {ms : List FM} (h : DkMs w ok p s mb cl ms) (hl : ms.length ≤ 1000000) (hn : ∀ m ∈ ms, m.name.length ≤ maxLen) :
    w.ownsMap Try.prog 9 R0 mb ms.length (.map (((ms.map ent).toArray.toList.map (rg Try.prog 9 R0)).foldr DataW.insert [])) := by
  have hm : maxLen = 9223372036854775807 := rfl
  refine ⟨_, cl, h.mblk, ⟨by simp; omega, ⟨fun x hx => ?_, ?_, ?_⟩, fun x hx => ?_⟩, by simp, rfl⟩
  · rw [List.toList_toArray] at hx
    obtain ⟨m, hm, rfl⟩ := List.mem_map.1 hx
    exact h.born m hm
  · rw [List.toList_toArray, List.map_map]
    exact List.pairwise_map.2 (h.apart.imp (fun {a b} h => h.2.1))
  · rw [List.toList_toArray, List.map_map]
    exact List.pairwise_map.2 (h.apart.imp (fun {a b} h e => h.1 (bs_inj (by injection e))))
  · rw [List.toList_toArray] at hx
    obtain ⟨m, hm, rfl⟩ := List.mem_map.1 hx
    exact ⟨_, rd_ent (hn m hm)⟩
set_option maxRecDepth 100000 in
theorem keys_disk {ms : List FM} (hn : ∀ m ∈ ms, m.name.length ≤ maxLen) :
    (strKeys (.map (((ms.map ent).toArray.toList.map (rg Try.prog 9 R0)).foldr DataW.insert []))).Perm (ms.map (·.name)) ∧ Maps.size (DataW.map (((ms.map ent).toArray.toList.map (rg Try.prog 9 R0)).foldr DataW.insert [])) = ms.length := by
  have e : (ms.map ent).toArray.toList.map (rg Try.prog 9 R0) = ms.map fun m => (Lit.string m.name, (DataW.nil : DataW Unit)) := by
    rw [List.toList_toArray, List.map_map]
    refine List.map_congr_left fun m hm => ?_
    rw [Function.comp_apply]
    exact WideElems.rg_of (rd_ent (hn m hm))
  rw [e]
  have hp := sorted_perm (ms.map fun m => (Lit.string m.name, (DataW.nil : DataW Unit)))
  constructor
  · have := hp.map (fun q => strOf q.1)
    rw [List.map_map] at this
    exact this
  · have := hp.length_eq
    rw [List.length_map] at this
    exact this
theorem sorts_in (m : Nat) : AnyZ.SortsIn Try.prog Try.sortedA_ren Fence.wide m :=
  ⟨fun blk off cap ss W hH hblk hsz => callsIn_wide.2 (Try.slices_Sort_string blk off cap ss W hH hblk hsz), fun p cap W => callsIn_wide.2 (Try.slices_Sort_string_none p cap W)⟩
theorem keys_call (mb : Option Nat) (W : World) : Calls Try.prog 40 #[.map mb] W fun e w' => e = .returned (.func (.func 59) #[] #[.pointer (some ⟨W.heap.size, 0, none⟩)]) ∧ w' = W.alloc (.cells #[.map mb] 62) :=
  (callsIn_wide (n := 5)).1 (AnyZ.keys_in Try.keysA Fence.wide 5 trivial rfl mb W)
theorem sorted_call {w w0 : World} {ok : Nat → Prop} {p mb cl g : Nat} {s : DS} {ms : List FM} (h : DkMs w ok p s mb cl ms) (hl : ms.length ≤ 1000000) (hn : ∀ m ∈ ms, m.name.length ≤ maxLen) (hg : w.heap[g]? = some (.cells #[.map (some mb)] 62 (0, 0))) :
    Calls Try.prog 39 #[.func (.func 59) #[] #[.pointer (some ⟨g, 0, none⟩)]] w fun e w' => ∃ v, e = .returned v ∧ text.R 9 w' w.heap.size (fun _ => True) v (sortT (ms.map (·.name))) ∧ Below w.heap.size w w' := by
  have hk := keys_disk hn
  have hseq : SeqGives Fence.wide 2 Try.prog 59 #[.pointer (some ⟨g, 0, none⟩)] encStr (fun ss => ss.Perm (strKeys (.map (((ms.map ent).toArray.toList.map (rg Try.prog 9 R0)).foldr DataW.insert [])))) (Maps.size (DataW.map (((ms.map ent).toArray.toList.map (rg Try.prog 9 R0)).foldr DataW.insert []))) w :=
    AnyZ.keys_gives (ρ := Try.keysA_ren) { Try.keysA with } Fence.wide _ trivial rfl (by omega) g mb ms.length _ w (blk_lt hg) ((blk_cell hg 0).trans rfl) (owns_disk h hl hn)
  have cS := AnyZ.sorted_in Try.sortedA Fence.wide 5 trivial trivial trivial trivial rfl (by omega) (sorts_in _) (enters_of Try.func58 (by kernel_rfl) rfl) 59 #[.pointer (some ⟨g, 0, none⟩)] trivial (enters_of Try.func59 (by kernel_rfl) rfl) _ _ (by rw [hk.2]; unfold maxLen; omega) (by rw [hk.2]; omega) _ hseq
  change CallsIn _ _ Try.prog 39 _ _ _ at cS
  refine ((callsIn_wide (n := 5)).1 cS).mono fun e w' hh => ?_
  obtain ⟨v, ss, he, hp, ho, hnil, hb⟩ := hh
  have hms : ss.mergeSort (fun x y => decide (x ≤ y)) = sortT (ms.map (·.name)) := mergeSort_of_perm (hp.trans hk.1)
  have hlen : ss.length = (sortT (ms.map (·.name))).length := by rw [← hms]; simp
  rw [hms, hlen] at ho
  exact ⟨v, he, Kd.R_of_own ho (fun _ _ => trivial), hb⟩
theorem hasPrefix_is (s p : T) : Go.Lib.hasPrefix s p = begins s p := rfl
set_option maxRecDepth 100000 in
set_option maxHeartbeats 400000 in
theorem list1_calls (w : World) (gp : Nat) (t pre : T) (hg : w.heap[gp]? = some (.cells #[.string (bs pre)] 9 (0, 0))) : Calls Try.prog 42 #[.string (bs t), .pointer (some ⟨gp, 0, none⟩)] w fun e w' => e = .returned (.bool (!begins t pre)) ∧ Below w.heap.size w w' := by
  have b0 : w.cell? ⟨gp, 0, none⟩ = some (.string (bs pre)) := (blk_cell hg 0).trans rfl
  have HP := Aside0.mk (Try.strings_HasPrefix (bs t) (bs pre) w)
  rw [bs_data, bs_data, hasPrefix_is] at HP
  generalize begins t pre = b at *
  clear hg
  go_enter Try.func42, Try.ntmps42
  go_wp2_with fail
  refine HP.out.mono ?_
  rintro e w1 ⟨rfl, rfl⟩
  go_wp2_with fail
  go_ret
  exact ⟨rfl, Below.refl _ _⟩
theorem fun_list : Fun 42 := ⟨_, Try.func42, rfl, rfl⟩
set_option maxRecDepth 100000 in
set_option maxHeartbeats 400000 in
theorem del_none (f : FuncId) (cap : Array Value) (w : World) (hf : Fun f) : Calls Try.prog 41 #[.slice none 0 0, .func (.func f) #[] cap] w fun e w' => e = .returned (.slice none 0 0) ∧ Below w.heap.size w w' := by
  have HI := Aside0.mk (idx_texts f cap (fun _ => false) 0 0 none [] w ⟨rfl, by decide, fun h => absurd h (Nat.lt_irrefl _)⟩ hf (fun _ _ t ht => by simp at ht))
  clear hf
  go_enter Try.func41, Try.ntmps41
  go_upto_region 2 with (first | (go_at_call 60; refine HI.out.mono ?_; rintro e w2 ⟨r, rfl, hb, hr⟩; have HB := Aside0.mk hb; have HRr := Aside0.mk hr; clear hb hr HI) | fail)
  have hr : r = -1 := by
    rcases HRr.out with ⟨rfl, _⟩ | ⟨i, _, hi, _⟩
    · rfl
    · exact absurd hi (Nat.not_lt_zero _)
  subst hr
  go_wp2_with fail
  go_ret
  exact ⟨rfl, HB.out⟩
theorem del_begins (v : Value) (xs : List T) (w : World) (base gp : Nat) (pre : T) (hv : text.R 9 w base (fun _ => True) v xs) (hg : w.heap[gp]? = some (.cells #[.string (bs pre)] 9 (0, 0))) (hgb : gp < base) :
    Calls Try.prog 41 #[v, .func (.func 42) #[] #[.pointer (some ⟨gp, 0, none⟩)]] w fun e w' => ∃ v', e = .returned v' ∧ text.R 9 w' base (fun _ => True) v' (xs.filter fun t => begins t pre) ∧ Only (fun k => base ≤ k) w w' := by
  have ho := (Kd.own_of_R hv).2
  rcases ho with ⟨rfl, h0⟩ | ⟨g, cap, cur, rfl, hb, hh, h1, h2, h3, h4⟩
  · have hx : xs = [] := List.eq_nil_of_length_eq_zero h0
    subst hx
    exact (del_none _ _ w fun_list).mono fun e w' hh => ⟨_, hh.1, Kd.R_nil _ _ _ _ _, Only.of_below hh.2⟩
  · refine (del_texts 42 #[.pointer (some ⟨gp, 0, none⟩)] (fun t => !begins t pre) g xs.length cap xs w base _ hv fun_list (fun w' hg' t _ => ?_)).mono fun e w' hh => ?_
    · refine list1_calls w' gp t pre ((hg'.block gp (blk_lt hg) (fun e => ?_)).trans hg)
      have : gp = g := Option.some.inj e
      omega
    · simp only [Bool.not_not] at hh
      refine ⟨_, hh.1, hh.2.1, ?_⟩
      exact ⟨hh.2.2.os, hh.2.2.tape, hh.2.2.output, hh.2.2.size, fun k hk hn => hh.2.2.block k hk (fun e => hn (by have : k = g := Option.some.inj e; omega))⟩
set_option maxRecDepth 100000 in
set_option maxHeartbeats 400000 in
theorem list_off (w : World) (ok : Nat → Prop) (p : Nat) (s : DS) (pv : ByteArray) (h : DkAt w ok p s) (ho : s.off = true) : Calls Try.prog 21 #[.pointer (some ⟨p, 0, none⟩), .string pv] w fun e w' => e = .returned (.slice none 0 0) ∧ Below w.heap.size w w' := by
  obtain ⟨mb, cl, ms, h⟩ := h
  have HH := Aside0.mk h
  clear h
  go_enter Try.func21, Try.ntmps21
  go_upto_region 1 with (first | ((with_reducible refine gate_dst (N := 3) rfl ?_); refine box_event ?hg (N := 3) ?hd (cs := #[.string pv]) (t := 9) ?hr ?_; (case hd => rfl); (case hg => rfl); (case hr => first | (go_simp; done) | (go_simp; rfl)); intro g1 hg w1 hbox hb; have GE1 := Aside0.mk (Nat.le_of_eq hg.symm); have BK1 := Aside0.mk hbox; have HX1 := Aside0.mk hb; clear hg hbox hb) | fail)
  have h1 := HH.out.below HX1.out
  obtain ⟨⟨c0, c1, c2, c3, c4⟩, f1, f2, f3, f4⟩ := h1.cells
  rw [ho] at c1
  clear h1
  go_wp2_with fail
  go_ret
  exact ⟨rfl, HX1.out⟩
set_option maxRecDepth 100000 in
set_option maxHeartbeats 1600000 in
theorem list_on (w : World) (ok : Nat → Prop) (p : Nat) (s : DS) (pre : T) (h : DkAt w ok p s) (ho : s.off = false) (hl : s.fs.length ≤ 1000000) (hn : ∀ x ∈ s.fs, x.1.length ≤ maxLen) :
    Calls Try.prog 21 #[.pointer (some ⟨p, 0, none⟩), .string (bs pre)] w fun e w' => ∃ v, e = .returned v ∧ text.R 9 w' w.heap.size (fun _ => True) v ((sortT (s.fs.map (·.1))).filter fun t => begins t pre) ∧ Below w.heap.size w w' := by
  obtain ⟨mb, cl, ms, h⟩ := h
  have hlm : ms.length ≤ 1000000 := by have := congrArg List.length h.abs; rw [List.length_map] at this; omega
  have hnm : ∀ m ∈ ms, m.name.length ≤ maxLen := fun m hm => hn m.abs (by rw [← h.abs]; exact List.mem_map.2 ⟨m, hm, rfl⟩)
  have hnames : s.fs.map (·.1) = ms.map (·.name) := by rw [← h.abs, List.map_map]; rfl
  rw [hnames]
  have HH := Aside0.mk h
  have HS := Aside0.mk (fun (w' : World) (g : Nat) (h : DkMs w' ok p s mb cl ms) (hg : w'.heap[g]? = some (.cells #[.map (some mb)] 62 (0, 0))) => sorted_call (w0 := w) h hlm hnm hg)
  clear h hl hn hlm hnm hnames
  generalize sortT (ms.map (·.name)) = ts at *
  go_enter Try.func21, Try.ntmps21
  go_upto_region 1 with (first | ((with_reducible refine gate_dst (N := 3) rfl ?_); refine box_event ?hg (N := 3) ?hd (cs := #[.string (bs pre)]) (t := 9) ?hr ?_; (case hd => rfl); (case hg => rfl); (case hr => first | (go_simp; done) | (go_simp; rfl)); intro g1 hg w1 hbox hb; have GE1 := Aside0.mk (Nat.le_of_eq hg.symm); have BK1 := Aside0.mk hbox; have HX1 := Aside0.mk hb; clear hg hbox hb) | fail)
  have h1 := HH.out.below HX1.out
  obtain ⟨⟨c0, c1, c2, c3, c4⟩, f1, f2, f3, f4⟩ := h1.cells
  rw [ho] at c1
  have H1 := Aside0.mk h1
  clear h1 ho c2 c3 c4 f1 f2 f3 f4
  go_wp2_with fail
  refine (keys_call (some mb) w1).mono ?_
  rintro e w2 ⟨rfl, hw2⟩
  have hb2 : Below w1.heap.size w1 w2 := by rw [hw2]; exact Below.alloc (Below.refl _ w1) (Nat.le_refl _) _
  have HB2 := Aside0.mk hb2
  have HG2 := Aside0.mk (show w2.heap[w1.heap.size]? = some (.cells #[.map (some mb)] 62 (0, 0)) by rw [hw2]; exact (heap_alloc w1 _).1)
  clear hw2 hb2 c0 c1
  generalize hb1 : w1.heap.size = b1 at HG2 ⊢
  clear hb1
  go_wp2_with fail
  refine (HS.out w2 b1 (H1.out.below HB2.out) HG2.out).mono ?_
  rintro e w3 ⟨v3, rfl, hr3, hb3⟩
  have HR3 := Aside0.mk hr3
  have HB3 := Aside0.mk hb3
  clear hr3 hb3
  go_wp2_with fail
  refine (del_begins v3 ts w3 w2.heap.size g1 pre HR3.out (blk_below (blk_below BK1.out HB2.out) HB3.out) (Nat.lt_of_lt_of_le (blk_lt BK1.out) HB2.out.size)).mono ?_
  rintro e w4 ⟨v4, rfl, hr4, ho4⟩
  have HR4 := Aside0.mk hr4
  have HO4 := Aside0.mk ho4
  clear hr4 ho4
  go_wp2_with fail
  go_ret
  have hle : w.heap.size ≤ w2.heap.size := Nat.le_trans HX1.out.size HB2.out.size
  exact ⟨v4, rfl, Kd.R_lower HR4.out hle, (below_then (below_then HX1.out HX1.out.size HB2.out) hle HB3.out).trans (HO4.out.below (Nat.le_trans hle HB3.out.size) (fun k hk => Nat.le_trans hle hk))⟩
theorem list_calls (w : World) (ok : Nat → Prop) (p : Nat) (s : DS) (pre : T) (h : DkAt w ok p s) (hl : s.fs.length ≤ 1000000) (hn : ∀ x ∈ s.fs, x.1.length ≤ maxLen) :
    Calls Try.prog 21 #[.pointer (some ⟨p, 0, none⟩), .string (bs pre)] w fun e w' => ∃ v, e = .returned v ∧ text.R 9 w' w.heap.size (fun _ => True) v (listS s pre) ∧ Below w.heap.size w w' := by
  unfold listS
  by_cases ho : s.off = true
  · rw [if_pos ho]
    exact (list_off w ok p s _ h ho).mono fun e w' hh => ⟨_, hh.1, Kd.R_nil _ _ _ _ _, hh.2⟩
  · rw [if_neg ho]
    exact list_on w ok p s pre h (by simpa using ho) hl hn
end Go.Proofs.Ytabomfmjepmkjaa.Dk
end

section
namespace Go.Proofs.Ytabomfmjepmkjaa.Dk
set_option linter.unusedVariables false
set_option linter.unusedSimpArgs false
open Go.RowKit Go.Proofs.YtabomfmjepmkjaaW.PrintWords Go.Proofs.YtabomfmjepmkjaaW.PrintLast Go.Proofs.YtabomfmjepmkjaaW.PrintMore Go.Proofs.Ytabomfmjepmkjaa.Lib Go.Proofs.Ytabomfmjepmkjaa.Mem Go.Proofs.Ytabomfmjepmkjaa.Txt
open Go.MapKept Go.ChangeMaps
theorem bytes_block {w : World} {g : Nat} {xs : List Int} {fr : Nat × Nat} (h : w.heap[g]? = some (.cells (xs.map (Value.int .u8)).toArray 5 fr)) (hl : xs.length ≤ 9223372036854775807) : Kd.C (Kd.int .u8) w (some ⟨g, 0, none⟩) xs.length xs := by
  refine ⟨rfl, hl, fun _ => ⟨_, rfl, fun j x hx => ⟨[.int .u8 x], rfl, rfl, fun i u hu => ?_⟩⟩⟩
  have e1 : (Kd.int .u8).sz = 1 := rfl
  rcases i with _ | i
  · obtain rfl := Option.some.inj hu
    rw [e1, show j * 1 + 0 = j by omega, add_at, Nat.zero_add]
    unfold World.cell?
    simp only [h]
    simp [hx]
  · simp at hu
def tA : T := [97]
def s1 : DS := ⟨false, 1, -1, 0, [(tA, [120, 121], 0)]⟩
def s2 : DS := ⟨false, 2, -1, 0, [(tA, [120, 121], 2)]⟩
def s3 : DS := ⟨false, 3, -1, 0, [(tA, [120, 121, 122], 2)]⟩
def s4 : DS := ⟨true, 3, -1, 0, [(tA, [120, 121], 2)]⟩
def s5 : DS := ⟨false, 3, -1, 0, [(tA, [120, 121], 2)]⟩
theorem step1 : appendS emptyS tA [120, 121] = (s1, 0) := by rfl
theorem step2 : syncS s1 tA = (s2, 0) := by rfl
theorem step3 : appendS s2 tA [122] = (s3, 0) := by rfl
theorem step4 : s3.cut 0 = s4 := by rfl
theorem read3 : refuse s3 true [tA] = 0 ∧ ((look s3.fs tA).getD ([], 0)).1 = [120, 121, 122] := ⟨rfl, rfl⟩
theorem read4 : refuse s4 true [tA] = 122 := rfl
theorem read5 : refuse s5 true [tA] = 0 ∧ ((look s5.fs tA).getD ([], 0)).1 = [120, 121] := ⟨rfl, rfl⟩
theorem shortA : Shorts [tA] := fun t ht => by rw [List.mem_singleton.1 ht]; decide
set_option maxRecDepth 100000 in
set_option maxHeartbeats 1600000 in
theorem awake_calls (w : World) : Calls Try.prog 10 #[] w fun e w' => e = .returned (.bool true) ∧ Below w.heap.size w w' := by
  have kc := fun (w : World) (C : Array Value) (n c : Nat) => Lib.run_convert_bytes_const (P := Try.prog) w 22 5 C n c Try.underlying22 Try.underlying5
  go_enter Try.func10, Try.ntmps10
  go_wp2_with fail
  refine (new_calls w).mono ?_
  rintro e w1 ⟨p, rfl, hd, hb, hp⟩
  have HD1 := Aside0.mk (hd.mono (ok' := fun k => w.heap.size ≤ k) (fun k hk => hk.elim False.elim (fun h => h.1)))
  have HB1 := Aside0.mk hb
  clear hd hb hp
  go_wp2_with fail
  have HX2 := Aside0.mk (Below.alloc (Below.refl w1.heap.size w1) (Nat.le_refl _) (.cells #[.int .u8 120, .int .u8 121] 5 (2, 3)))
  have BK2 := Aside0.mk (heap_alloc w1 (.cells #[.int .u8 120, .int .u8 121] 5 (2, 3))).1
  have HB2 := Aside0.mk (below_then HB1.out HB1.out.size HX2.out)
  generalize w1.alloc (.cells #[.int .u8 120, .int .u8 121] 5 (2, 3)) = w2 at *
  refine (append_calls w2 _ p 2 2 emptyS tA (some ⟨w1.heap.size, 0, none⟩) [120, 121] (HD1.out.below HX2.out) shortA ⟨by decide, by decide⟩ (bytes_block (xs := [120, 121]) BK2.out (by decide)) (by decide)).mono ?_
  rintro e w3 ⟨rfl, hd, ho⟩
  rw [step1] at hd ⊢
  have HD3 := Aside0.mk (hd.mono (ok' := fun k => w.heap.size ≤ k) (fun k hk => hk.elim id (fun h => Nat.le_trans HB2.out.size h.1)))
  have HB3 := Aside0.mk (HB2.out.trans (ho.below HB2.out.size (fun _ h => h)))
  clear hd ho
  simp only
  go_wp2_with fail
  refine (sync_calls w3 _ p s1 tA HD3.out shortA ⟨by decide, by decide⟩).mono ?_
  rintro e w4 ⟨rfl, hd, ho⟩
  rw [step2] at hd ⊢
  have HD4 := Aside0.mk hd
  have HB4 := Aside0.mk (HB3.out.trans (ho.below HB3.out.size (fun _ h => h)))
  clear hd ho
  simp only
  go_wp2_with fail
  have HX5 := Aside0.mk (Below.alloc (Below.refl w4.heap.size w4) (Nat.le_refl _) (.cells #[.int .u8 122] 5 (1, 2)))
  have BK5 := Aside0.mk (heap_alloc w4 (.cells #[.int .u8 122] 5 (1, 2))).1
  have HB5 := Aside0.mk (below_then HB4.out HB4.out.size HX5.out)
  generalize w4.alloc (.cells #[.int .u8 122] 5 (1, 2)) = w5 at *
  refine (append_calls w5 _ p 1 1 s2 tA (some ⟨w4.heap.size, 0, none⟩) [122] (HD4.out.below HX5.out) shortA ⟨by decide, by decide⟩ (bytes_block (xs := [122]) BK5.out (by decide)) (by decide)).mono ?_
  rintro e w6 ⟨rfl, hd, ho⟩
  rw [step3] at hd ⊢
  have HD6 := Aside0.mk ((hd.bound).mono (ok' := fun k => w.heap.size ≤ k ∧ k < w6.heap.size) (fun k hk => ⟨hk.1.elim id (fun h => Nat.le_trans HB5.out.size h.1), hk.2⟩))
  have HB6 := Aside0.mk (HB5.out.trans (ho.below HB5.out.size (fun _ h => h)))
  clear hd ho
  simp only
  go_wp2_with fail
  refine (read_yes w6 _ p s3 tA HD6.out shortA read3.1 (by rw [read3.2]; decide)).mono ?_
  rintro e w7 ⟨v7, rfl, hr, hb⟩
  rw [read3.2] at hr
  obtain ⟨A7, c7, rfl, hc7, hC7⟩ := Kd.R_reads hr
  have HR7 := Aside0.mk hr
  have HD7 := Aside0.mk (HD6.out.below hb)
  have HB7 := Aside0.mk (below_then HB6.out HB6.out.size hb)
  clear hr hb hC7 hc7
  go_wp2_with fail
  refine (Cut_calls w7 _ p s3 0 HD7.out rfl).mono ?_
  rintro e w8 ⟨rfl, hd, ho⟩
  rw [step4] at hd
  have HD8 := Aside0.mk hd
  have HB8 := Aside0.mk (HB7.out.trans (ho.below HB7.out.size (fun _ h => h.1)))
  have HR8 := Aside0.mk (R_only HR7.out ho (fun k _ h1 _ h2 => by omega))
  clear hd ho
  go_wp2_with fail
  have hr4 := read_no w8 _ p s4 tA HD8.out shortA (by rw [read4]; decide)
  rw [read4] at hr4
  refine hr4.mono ?_
  rintro e w9 ⟨rfl, hb⟩
  have HD9 := Aside0.mk (HD8.out.below hb)
  have HB9 := Aside0.mk (below_then HB8.out HB8.out.size hb)
  have HR9 := Aside0.mk (Kd.R_below HR8.out hb)
  clear hb hr4
  go_wp2_with fail
  refine (on_calls w9 _ p s4 HD9.out).mono ?_
  rintro e w10 ⟨rfl, hd, ho⟩
  have HD10 := Aside0.mk (show DkAt w10 (fun k => w.heap.size ≤ k ∧ k < w6.heap.size) p s5 from hd)
  have hok : w.heap.size ≤ p ∧ p < w6.heap.size := by obtain ⟨mb, cl, ms, h⟩ := HD9.out; exact h.okp
  have HB10 := Aside0.mk (HB9.out.trans (ho.below HB9.out.size (fun k h => by rw [show k = p from h]; exact hok.1)))
  have HR10 := Aside0.mk (R_only HR9.out ho (fun k _ h1 _ h2 => by have e : k = p := h2; omega))
  clear hd ho hok
  go_wp2_with fail
  refine (read_yes w10 _ p s5 tA HD10.out shortA read5.1 (by rw [read5.2]; decide)).mono ?_
  rintro e w11 ⟨v11, rfl, hr, hb⟩
  rw [read5.2] at hr
  obtain ⟨A11, c11, rfl, hc11, hC11⟩ := Kd.R_reads hr
  have HD11 := Aside0.mk (HD10.out.below hb)
  have HB11 := Aside0.mk (below_then HB10.out HB10.out.size hb)
  have hR7 := Kd.R_below HR10.out hb
  have hs7 := Kd.C_string Try.underlying22 Try.underlying5 Try.underlying9 (c := c7) (show Kd.C (Kd.int .u8) w11 A7 3 [120, 121, 122] from (Kd.R_reads' hR7).2.2)
  have hs11 := Kd.C_string Try.underlying22 Try.underlying5 Try.underlying9 (c := c11) (show Kd.C (Kd.int .u8) w11 A11 2 [120, 121] from hC11)
  have e7 : strOfNums [120, 121, 122] = ⟨#[120, 121, 122]⟩ := by decide +kernel
  have e11 : strOfNums [120, 121] = ⟨#[120, 121]⟩ := by decide +kernel
  rw [e7] at hs7
  rw [e11] at hs11
  clear hr hb hC11 hc11 hR7 e7 e11
  go_wp2_with fail
  refine (ops_calls w11 _ p s5 HD11.out).mono ?_
  rintro e w12 ⟨rfl, hb⟩
  have HB12 := Aside0.mk (below_then HB11.out HB11.out.size hb)
  clear hb
  have e5 : s5.ops = 3 := rfl
  rw [e5]
  go_wp2_with fail
  go_ret
  exact ⟨rfl, HB12.out⟩
end Go.Proofs.Ytabomfmjepmkjaa.Dk
end

section
namespace Go.Proofs.Ytabomfmjepmkjaa.Dk
set_option linter.unusedVariables false
set_option linter.unusedSimpArgs false
open Go.RowKit Go.Proofs.YtabomfmjepmkjaaW.PrintWords Go.Proofs.YtabomfmjepmkjaaW.PrintLast Go.Proofs.YtabomfmjepmkjaaW.PrintMore Go.Proofs.Ytabomfmjepmkjaa.Lib Go.Proofs.Ytabomfmjepmkjaa.Mem Go.Proofs.Ytabomfmjepmkjaa.Txt
open Go.MapKept Go.ChangeMaps
def Sz (es : Fs) (i : Nat) : Prop := ∀ x ∈ es, x.2.1.length ≤ i * KB
theorem sz_0 : Sz [] 0 := fun x h => absurd h List.not_mem_nil
theorem sz_put {es : Fs} {i : Nat} (h : Sz es i) (s : T) (v : Fv) (hv : v.1.length ≤ (i + 1) * KB) : Sz (putF es s v) (i + 1) := fun x hx => by
  rcases mem_put hx with rfl | hx
  · exact hv
  · have := h x hx; rw [Nat.add_mul]; omega
theorem sz_note {es : Fs} {i : Nat} (hn : Nd es) (h : Sz es i) (kind : Int) (s t : T) (xs : List Int) (hx : xs.length ≤ KB) : Sz (noteE es kind s t xs) (i + 1) := by
  have hl : ∀ v, look es s = some v → v.1.length ≤ i * KB := fun v hv => h _ (mem_look hv)
  have hw : ∀ x ∈ es, x.2.1.length ≤ (i + 1) * KB := fun x hx => by have := h x hx; rw [Nat.add_mul]; omega
  have hd : ∀ u, ∀ x ∈ delF es u, x.2.1.length ≤ (i + 1) * KB := fun u x hx => hw x (mem_del hx)
  unfold noteE
  by_cases h3 : absN kind % 6 = 3
  · rw [if_pos h3]
    unfold syncF
    cases hl2 : look es s with
    | none => exact hw
    | some v => exact sz_put h s _ (by have := hl v hl2; rw [Nat.add_mul]; show v.1.length ≤ _; omega)
  rw [if_neg h3]
  by_cases h4 : absN kind % 6 = 4
  · rw [if_pos h4]; exact hd s
  rw [if_neg h4]
  by_cases h5 : absN kind % 6 = 5
  · rw [if_pos h5]
    by_cases hc : (look es s).isSome = true ∧ s ≠ t
    · rw [if_pos hc]
      intro x hx
      obtain ⟨y, hy, rfl⟩ := List.mem_map.1 hx
      have := hd t y hy
      unfold ren1
      by_cases e : y.1 = s
      · rw [if_pos e]; exact this
      · rw [if_neg e]; exact this
    · rw [if_neg hc]; exact hw
  rw [if_neg h5]
  unfold appF
  cases hl2 : look es s with
  | none => exact sz_put h s _ (by rw [Nat.add_mul]; show xs.length ≤ _; omega)
  | some v => exact sz_put h s _ (by have := hl v hl2; rw [Nat.add_mul]; show (v.1 ++ xs).length ≤ _; rw [List.length_append]; omega)
theorem txt_len (l : List Int) : (txtI l).length = l.length := by unfold txtI; simp [strOfNums]
theorem fit_1 {d : DS} {es : Fs} {i : Nat} (hI : Inv d es i) (h : Sz es i) (hi : i < 100) (s : T) (m : Nat) (hm : m ≤ KB) : ((look d.fs s).getD ([], 0)).1.length + m ≤ 140737488355328 := by
  have hk : i * KB ≤ 100 * KB := Nat.mul_le_mul_right _ (by omega)
  have hk2 : KB = 8589934592 := rfl
  rw [← hI.same s]
  cases hl : look es s with
  | none => show 0 + m ≤ _; omega
  | some v => have := h _ (mem_look hl); show v.1.length + m ≤ _; have h3 : v.1.length ≤ i * KB := this; omega
theorem fit_2 {es : Fs} {i : Nat} (h : Sz es i) (hi : i < 100) (k : Nat) (m : Nat) (hm : m ≤ KB) : ((bof es).bytes.getD k []).length + m ≤ 9223372036854775807 := by
  have hk : i * KB ≤ 100 * KB := Nat.mul_le_mul_right _ (by omega)
  have hk2 : KB = 8589934592 := rfl
  rw [List.getD_eq_getElem?_getD]
  unfold bof
  rw [List.getElem?_map]
  cases he : es[k]? with
  | none => show 0 + m ≤ _; omega
  | some x =>
    have := h x (List.mem_of_getElem? he)
    show (txtI x.2.1).length + m ≤ _
    rw [txt_len]
    omega
theorem cell_below {w w' : World} (hb : Below w.heap.size w w') {a : Addr} {v : Value} (h : w.cell? a = some v) : w'.cell? a = some v := by
  by_cases hl : a.block < w.heap.size
  · exact (World.cell?_of_block (a := a) (hb.block a.block hl)).trans h
  · unfold World.cell? at h
    rw [Array.getElem?_eq_none (by omega)] at h
    cases h
inductive RelN (w : World) (c : Int) (p q : Nat) (i : Nat) (w' : World) : Prop
  | mk (d : DS) (es : Fs) (Od Ob : Nat → Prop) (hI : Inv d es i) (hz : Sz es i) (hc : d.cutAt = c) (hd : DkAt w' Od p d) (hb : BkAt w' Ob q (bof es)) (hap : ∀ k, Od k → ¬ Ob k) (hlo : ∀ k, Od k ∨ Ob k → w.heap.size ≤ k) (hB : Below w.heap.size w w')
theorem rel_note {w wr : World} {c : Int} {p q i : Nat} (h : RelN w c p q i wr) (hi : i < 99) (hc : c = -1) (x : OpV) (hx : OpOk x) (B : Option Addr) (cB : Nat) (hC : Kd.C (Kd.int .u8) w B x.2.2.2.1.length x.2.2.2.1) :
    Calls Try.prog 20 #[.pointer (some ⟨q, 0, none⟩), .pointer (some ⟨p, 0, none⟩), .agg #[.int .i64 x.1, .string x.2.1, .string x.2.2.1, .slice B x.2.2.2.1.length cB, .int .i64 x.2.2.2.2]] wr fun e w' => e = .returned (.bool true) ∧ RelN w c p q (i + 1) w' := by
  obtain ⟨d, es, Od, Ob, hI, hz, hcut, hd, hb, hap, hlo, hB⟩ := h
  have hk2 : KB = 8589934592 := rfl
  have hop : d.ops ≠ d.cutAt := by have := hI.ops; omega
  obtain ⟨e1, e2, e3, e4⟩ := note_inv (kind := x.1) (xs := x.2.2.2.1) hI (by omega) hop (nameT_named x.2.1.size) (nameT_named x.2.2.1.size)
  have hwf : -9223372036854775808 ≤ x.1 ∧ x.1 ≤ 9223372036854775807 := by
    have := hx.1
    simp only [Lit.wf, Bool.and_eq_true, decide_eq_true_eq] at this
    exact this
  refine (note_calls wr Od Ob p q d (bof es) x.1 x.2.2.2.2 x.2.1 x.2.2.1 B _ cB es.length x.2.2.2.1 hd hb hap (by simp [bof]) (by simp [bof]) (by simp [bof]) (by have := hI.len; omega) (by have := hx.2.1; omega) (by have := hx.2.2.1; omega)
    (fun w' ho => Kd.C_below hC (hB.trans (ho.below hB.size hlo))) hwf.1 (by omega) ⟨hI.ops.1, by have := hI.ops.2; omega⟩ (fit_1 hI hz (by omega) _ _ hx.2.2.2.1) (fit_2 hz (by omega) _ _ hx.2.2.2.1)).mono ?_
  · rintro e w' ⟨rfl, okd, okb, hDB⟩
    rw [e1]
    rw [e2] at hDB
    refine ⟨rfl, .mk _ _ okd okb e3 (sz_note hI.nde hz _ _ _ _ hx.2.2.2.1) (e4.cut.trans hcut) hDB.dk hDB.bk hDB.apart (fun k hk => ?_) (hB.trans (hDB.only.below hB.size hlo))⟩
    rcases hk with hk | hk
    · rcases (hDB.ld k hk).1 with h | h
      · exact hlo k (.inl h)
      · exact Nat.le_trans hB.size h
    · rcases (hDB.lb k hk).1 with h | h
      · exact hlo k (.inr h)
      · exact Nat.le_trans hB.size h
end Go.Proofs.Ytabomfmjepmkjaa.Dk
end

section
namespace Go.Proofs.Ytabomfmjepmkjaa.Dk
set_option linter.unusedVariables false
set_option linter.unusedSimpArgs false
open Go.RowKit Go.Proofs.Ytabomfmjepmkjaa.Mem Go.Proofs.Ytabomfmjepmkjaa.Txt
theorem named_len {t : T} (h : named t = true) : t.length ≤ 64 := by
  simp only [named, Bool.and_eq_true, decide_eq_true_eq] at h
  exact h.2.2
theorem sortT_perm (l : List T) : (sortT l).Perm l := List.mergeSort_perm l _
end Go.Proofs.Ytabomfmjepmkjaa.Dk
end

section
namespace Go.Proofs.Ytabomfmjepmkjaa.Dk
set_option linter.unusedVariables false
set_option linter.unusedSimpArgs false
open Go.RowKit Go.Proofs.YtabomfmjepmkjaaW.PrintWords Go.Proofs.YtabomfmjepmkjaaW.PrintLast Go.Proofs.YtabomfmjepmkjaaW.PrintMore Go.Proofs.Ytabomfmjepmkjaa.Lib Go.Proofs.Ytabomfmjepmkjaa.Mem Go.Proofs.Ytabomfmjepmkjaa.Txt
open Go.MapKept Go.ChangeMaps
theorem rel_start {w w1 w2 w3 : World} {p q : Nat} (hB1 : Below w.heap.size w w1) (hd : DkAt w2 (okx (fun _ => False) w1 w2) p emptyS) (hb : Below w1.heap.size w1 w2) (hq : w3.heap[q]? = some (.cells #[.slice none 0 0, .slice none 0 0, .slice none 0 0] 39 (0, 0))) (hge : w2.heap.size ≤ q) (hb3 : Below w2.heap.size w2 w3) : RelN w (-1) p q 0 w3 := by
  refine .mk emptyS [] (fun k => (k < w2.heap.size ∧ w1.heap.size ≤ k)) (fun k => k = q) (inv_0 _ _) sz_0 rfl ((hd.mono (fun k hk => hk.elim False.elim (fun h => ⟨h.2, h.1⟩))).below hb3) ⟨none, none, none, 0, 0, 0, 0, 0, 0, ⟨rfl, hq, ⟨rfl, Nat.le_refl _, Nat.zero_le _, .inl ⟨rfl, rfl⟩⟩, ⟨rfl, Nat.le_refl _, Nat.zero_le _, .inl ⟨rfl, rfl⟩⟩, ⟨rfl, Nat.le_refl _, Nat.zero_le _, .inl ⟨rfl, rfl⟩⟩, fun a a' ha _ => by cases ha⟩⟩
    (fun k h1 h2 => by have := h1.1; omega) (fun k hk => ?_) (below_then (below_then hB1 hB1.size hb) (Nat.le_trans hB1.size hb.size) hb3)
  have h1 := hB1.size
  have h2 := hb.size
  rcases hk with h | h
  · have := h.2; omega
  · omega
theorem DkAt_okp {w : World} {ok : Nat → Prop} {p : Nat} {s : DS} (h : DkAt w ok p s) : ok p := by obtain ⟨_, _, _, h⟩ := h; exact h.okp
theorem begins_nil (t : T) : begins t [] = true := (begins_iff t []).2 (List.nil_prefix)
theorem lists_all {s : DS} (ho : s.off = false) : (listS s []).length = s.fs.length := by
  unfold listS
  rw [if_neg (by rw [ho]; decide), List.filter_eq_self.2 (fun t _ => begins_nil t), (sortT_perm _).length_eq, List.length_map]
theorem txt_take (l : List Int) (k : Nat) : txtI (l.take k) = (txtI l).take k := by
  unfold txtI
  simp [strOfNums, List.map_take]
theorem cut_len (part : Int) (v : Fv) (h : v.2 ≤ v.1.length) : ((v.2 + (min (max part 0) ((v.1.length : Int) - v.2)).toNat : Nat) : Int) = if part < (v.1.length : Int) - v.2 then (v.2 : Int) + max part 0 else v.1.length := by
  split <;> omega
theorem cut_bs2 (p : T) (j : Nat) : (bs p).extract 0 j = bs (p.take j) := by
  rw [bs_eq, bs_data, ByteArray.data_extract, Array.toList_extract, List.extract_eq_take_drop]
  simp [bs]
inductive RelJ (n : Nat) (w : World) (v : Value) (w' : World) : Prop
  | mk (i : Nat) (e : v = .int .i64 i) (hi : i ≤ n) (hb : Below w.heap.size w w')
inductive RelK (w : World) (p q : Nat) (v : Value) (w' : World) : Prop
  | mk (i : Nat) (e : v = .int .i64 i) (hi : i ≤ 80) (h : RelN w (-1) p q i w')
set_option maxRecDepth 100000 in
set_option maxHeartbeats 3200000 in
theorem keeps_calls (ops : List OpV) (part : Int) (n c : Nat) (A : Option Addr) (w : World) (hC : Kd.C kOp w A n ops) (hops : ∀ x ∈ ops, OpOk x) (hp : -9223372036854775808 ≤ part ∧ part ≤ 9223372036854775807) :
    Calls Try.prog 7 #[.slice A n c, .int .i64 part] w fun e w' => e = .returned (.bool true) ∧ Below w.heap.size w w' := by
  obtain rfl := hC.1
  have HC := Aside0.mk hC
  have HOps := Aside0.mk hops
  have HPart := Aside0.mk hp
  clear hC hops hp
  go_enter Try.func7, Try.ntmps7
  go_wp2_with fail
  refine (awake_calls w).mono ?_
  rintro e w1 ⟨rfl, hb⟩
  have HB1 := Aside0.mk hb
  clear hb
  go_wp2_with fail
  refine (new_calls w1).mono ?_
  rintro e w2 ⟨p, rfl, hd, hb, _⟩
  have HD := Aside0.mk hd
  have HB2 := Aside0.mk hb
  clear hd hb
  go_wp2_with (first
    | ((with_reducible refine gate_dst (N := 21) rfl ?_); refine box_event ?hg (N := 21) ?hd (cs := #[.slice none 0 0, .slice none 0 0, .slice none 0 0]) (t := 39) ?hr ?_; (case hd => rfl); (case hg => rfl); (case hr => first | (go_simp; done) | (go_simp; rfl)); intro g3 hg w3 hbox hb; have GE3 := Aside0.mk (Nat.le_of_eq hg.symm); have BK3 := Aside0.mk hbox; have HX3 := Aside0.mk hb; clear hg hbox hb)
    | fail)
  have HS := Aside0.mk (show RelK w p g3 (.int .i64 0) w3 from .mk 0 rfl (Nat.zero_le _) (rel_start HB1.out HD.out HB2.out BK3.out GE3.out HX3.out))
  clear HD HB2 HB1 BK3 HX3 GE3
  go_loopw [8] (fun v8 w' => RelK w p g3 v8 w') (fun v8 _ => 80 - (intOf v8).toNat)
  case atStart => exact HS.out
  case round =>
    clear HS
    obtain ⟨i, rfl, hi, hr⟩ := hrel
    have HR := Aside0.mk hr
    clear hr
    by_cases h1 : i < ops.length
    · by_cases h2 : i < 80
      · have hc1 : decide ((i : Int) < (ops.length : Int)) = true := decide_eq_true (by omega)
        have hc2 : decide ((i : Int) < 80) = true := decide_eq_true (by omega)
        have hii : (i : Int) < (ops.length : Int) := by omega
        have hBw : Below w.heap.size w wr := by obtain ⟨_, _, _, _, _, _, _, _, _, _, _, hB⟩ := HR.out; exact hB
        obtain ⟨ad, B, cB, rfl, o0', o1', o2', o3', o4', hlB, hCB⟩ := at_op HC.out i h1
        have HCB := Aside0.mk hCB
        have o0 := cell_below hBw o0'
        have o1 := cell_below hBw o1'
        have o2 := cell_below hBw o2'
        have o3 := cell_below hBw o3'
        have o4 := cell_below hBw o4'
        clear hCB o0' o1' o2' o3' o4' hBw
        have HOk := Aside0.mk (HOps.out (ops.getD i zOp) (by rw [List.getD_eq_getElem?_getD, List.getElem?_eq_getElem h1]; exact List.getElem_mem h1))
        generalize ops.getD i zOp = x at *
        clear h1
        go_wp2_with fail
        refine (rel_note HR.out (by omega) rfl x HOk.out B cB HCB.out).mono ?_
        rintro e w4 ⟨rfl, hr⟩
        have HR4 := Aside0.mk hr
        clear hr HR
        go_wp2_with fail
        go_roundw
        case rel => exact .mk (i + 1) (by go_num) (by omega) HR4.out
        case measure => simp [intOf]; omega
      · obtain rfl : i = 80 := by omega
        have hii : (80 : Int) < (ops.length : Int) := by omega
        clear h1 h2
        obtain ⟨d, es, Od, Ob, hI, hz, hcut, hd, hb, hap, hlo, hB⟩ := HR.out
        have HI := Aside0.mk hI
        have HZ := Aside0.mk hz
        have HDk := Aside0.mk hd
        have HBk := Aside0.mk hb
        have HAp := Aside0.mk hap
        have HLo := Aside0.mk hlo
        have HBw := Aside0.mk hB
        clear hI hz hcut hd hb hap hlo hB HR
        go_wp2_with fail
        refine (Cut_calls wr Od p d part HDk.out HI.out.off).mono ?_
        rintro e w5 ⟨rfl, hd, ho⟩
        have HD5 := Aside0.mk hd
        have HB5 := Aside0.mk (HBk.out.step ho (fun k hk _ h2 => HAp.out k h2 hk))
        have HW5 := Aside0.mk (HBw.out.trans (ho.below HBw.out.size (fun k hk => HLo.out k (.inl hk))))
        clear hd ho HDk HBk HBw
        go_wp2_with fail
        refine (off_calls w5 Od p _ HD5.out).mono ?_
        rintro e w6 ⟨rfl, hb⟩
        have HD6 := Aside0.mk (HD5.out.below hb)
        have HB6 := Aside0.mk (HB5.out.below hb)
        have HW6 := Aside0.mk (below_then HW5.out HW5.out.size hb)
        clear hb HD5 HB5 HW5
        have hoff : (d.cut part).off = true := rfl
        rw [hoff]
        clear hoff
        go_wp2_with fail
        refine (on_calls w6 Od p _ HD6.out).mono ?_
        rintro e w7 ⟨rfl, hd, ho⟩
        have HD7 := Aside0.mk hd
        have HB7 := Aside0.mk (HB6.out.step ho (fun k hk _ h2 => HAp.out k (by rw [h2]; exact DkAt_okp HD6.out) hk))
        have HW7 := Aside0.mk (HW6.out.trans (ho.below HW6.out.size (fun k hk => HLo.out k (.inl (by rw [hk]; exact DkAt_okp HD6.out)))))
        clear hd ho HD6 HB6 HW6
        obtain ⟨s7, hs7⟩ : ∃ s7 : DS, s7 = { d.cut part with off := false } := ⟨_, rfl⟩
        rw [← hs7] at HD7
        have HFs := Aside0.mk (show s7.fs = d.fs.map (fun x => (x.1, cut1 part x.2)) by rw [hs7]; rfl)
        have HOff := Aside0.mk (show s7.off = false by rw [hs7])
        clear hs7
        have HLn := Aside0.mk (show s7.fs.length = es.length by rw [HFs.out, List.length_map]; exact HI.out.flen)
        have HNm := Aside0.mk (fun x (hx : x ∈ s7.fs) => (show x.1.length ≤ 64 by
          rw [HFs.out] at hx
          obtain ⟨y, hy, rfl⟩ := List.mem_map.1 hx
          have h1 := look_mem HI.out.ndf hy
          rw [← HI.out.same] at h1
          have h2 := HI.out.named _ (mem_look h1)
          exact named_len h2))
        go_wp2_with fail
        refine (list_calls w7 Od p s7 [] HD7.out (by rw [HLn.out]; have := HI.out.len; omega) (fun x hx => Nat.le_trans (HNm.out x hx) (by decide))).mono ?_
        rintro e w8 ⟨v8, rfl, hr, hb⟩
        obtain ⟨A8, c8, rfl, hc8, hC8⟩ := Kd.R_reads hr
        have HD8 := Aside0.mk (HD7.out.below hb)
        have HB8 := Aside0.mk (HB7.out.below hb)
        have HW8 := Aside0.mk (below_then HW7.out HW7.out.size hb)
        have hll : (listS s7 []).length = es.length := (lists_all HOff.out).trans HLn.out
        rw [hll]
        obtain ⟨A1, A2, A3, n1, n2, n3, d1, d2, d3, hbk⟩ := HB8.out
        obtain rfl : es.length = n1 := by have := hbk.r1.len; rw [← this]; simp [bof]
        obtain rfl : es.length = n2 := by have := hbk.r2.len; rw [← this]; simp [bof]
        obtain rfl : es.length = n3 := by have := hbk.r3.len; rw [← this]; simp [bof]
        have HK := Aside0.mk hbk
        have k0 : w8.cell? ⟨g3, 0, none⟩ = some (.slice A1 es.length d1) := (blk_cell hbk.blk 0).trans rfl
        clear hr hb hc8 hC8 hll hbk HD7 HB7 HW7 HB8
        go_wp2_with fail
        go_loopw [12] (fun v12 w' => RelJ es.length w8 v12 w') (fun v12 _ => es.length - (intOf v12).toNat)
        case atStart => exact .mk 0 rfl (Nat.zero_le _) (Below.refl _ _)
        case round =>
          obtain ⟨j, rfl, hj, hb⟩ := hrel
          have HBj := Aside0.mk hb
          have hk := HK.out.below hb
          have k0 : wr.cell? ⟨g3, 0, none⟩ = some (.slice A1 es.length d1) := (blk_cell hk.blk 0).trans rfl
          have k1 : wr.cell? ⟨g3, 1, none⟩ = some (.slice A2 es.length d2) := (blk_cell hk.blk 1).trans rfl
          have k2 : wr.cell? ⟨g3, 2, none⟩ = some (.slice A3 es.length d3) := (blk_cell hk.blk 2).trans rfl
          have HDj := Aside0.mk (HD8.out.below hb)
          clear hb
          by_cases hlt : j < es.length
          · have hjj : (j : Int) < (es.length : Int) := by omega
            have HW := Aside0.mk (wrapN (k := j) (by have := HI.out.len; omega))
            obtain ⟨⟨nm, v⟩, hx⟩ : ∃ x, es[j]? = some x := ⟨_, List.getElem?_eq_getElem hlt⟩
            have HX := Aside0.mk hx
            obtain ⟨ga, ea, -, -, ca, -⟩ := hk.r1.at j nm (by unfold bof; simp [hx])
            obtain ⟨gb, eb, -, -, cb, -⟩ := hk.r2.at j (txtI v.1) (by unfold bof; simp [hx])
            obtain ⟨gc, ec, -, -, cc, -⟩ := hk.r3.at j (v.2 : Int) (by unfold bof; simp [hx])
            subst ea eb ec
            have ca' : wr.cell? ⟨ga, j, none⟩ = some (.string (bs nm)) := ca
            have cb' : wr.cell? ⟨gb, j, none⟩ = some (.string (bs (txtI v.1))) := cb
            have cc' : wr.cell? ⟨gc, j, none⟩ = some (.int .i64 (v.2 : Int)) := cc
            have hsz : (bs (txtI v.1)).size = v.1.length := by rw [bs_size, txt_len]
            have hsyn : v.2 ≤ v.1.length := HI.out.syn (nm, v) (List.mem_of_getElem? hx)
            have hlen : v.1.length ≤ 1000 * KB := by have := HZ.out (nm, v) (List.mem_of_getElem? hx); have h2 := HI.out.len; exact Nat.le_trans this (Nat.mul_le_mul_right _ (by omega))
            clear hk ca cb cc hx
            have HLk := Aside0.mk (show look s7.fs nm = some (cut1 part v) by
              rw [HFs.out, look_map, ← HI.out.same, look_mem HI.out.nde (List.mem_of_getElem? HX.out)]; rfl)
            have HNmd := Aside0.mk (show named nm = true from HI.out.named (nm, v) (List.mem_of_getElem? HX.out))
            have hkb : KB = 8589934592 := rfl
            have HCl := Aside0.mk (cut_len part v hsyn)
            obtain ⟨m, hm⟩ : ∃ m, m = v.2 + (min (max part 0) ((v.1.length : Int) - v.2)).toNat := ⟨_, rfl⟩
            have hmle : m ≤ v.1.length := by rw [hm]; omega
            have HCut := Aside0.mk (show cut1 part v = (v.1.take m, m) by rw [hm]; rfl)
            rw [← hm] at HCl
            clear hm
            have hp2 : -9223372036854775808 ≤ part := HPart.out.1
            have hw1 : wrap64 ((v.1.length : Int) - (v.2 : Int)) = (v.1.length : Int) - (v.2 : Int) := by unfold wrap64; omega
            have HRd := Aside0.mk (read_yes wr Od p s7 nm HDj.out (fun t ht => by rw [List.mem_singleton.1 ht]; have := named_len HNmd.out; omega) (by
              have h1 := HOff.out; have h2 := HNmd.out; have h3 := HLk.out; simp [refuse, h1, h2, h3]) (by
              rw [HLk.out, HCut.out]; show (v.1.take m).length ≤ _; rw [List.length_take]; omega))
            rw [HLk.out, HCut.out] at HRd
            simp only [Option.getD_some] at HRd
            have hlm : (v.1.take m).length = m := by rw [List.length_take]; omega
            by_cases hpt : part < (v.1.length : Int) - v.2
            · have hp1 : decide (part < (v.1.length : Int) - (v.2 : Int)) = true := decide_eq_true hpt
              have HCm := Aside0.mk (show (m : Int) = (v.2 : Int) + max part 0 by rw [HCl.out, if_pos hpt])
              have hw2 : wrap64 ((v.2 : Int) + max part 0) = (m : Int) := by
                rw [HCm.out]; unfold wrap64; omega
              clear hpt hlen hkb hp2 hsyn
              have HW2 := Aside0.mk hw2
              clear hw2
              go_wp2_with fail
              rw [HW2.out]
              clear k0 k1 k2 ca' cb' cc' hp1 hw1
              refine HRd.out.mono ?_
              rintro e w9 ⟨v9, rfl, hr, hb⟩
              obtain ⟨A9, c9, rfl, hc9, hC9⟩ := Kd.R_reads hr
              rw [hlm] at hC9 hc9
              have HB9 := Aside0.mk (below_then HBj.out HBj.out.size hb)
              have hk9 := HK.out.below HB9.out
              have k1 : w9.cell? ⟨g3, 1, none⟩ = some (.slice (some ⟨gb, 0, none⟩) es.length d2) := (blk_cell hk9.blk 1).trans rfl
              have cb' : w9.cell? ⟨gb, j, none⟩ = some (.string (bs (txtI v.1))) := by
                obtain ⟨gb', eb, -, -, cb, -⟩ := hk9.r2.at j (txtI v.1) (by unfold bof; have := HX.out; simp [this])
                injection eb with eb; injection eb with eb
                subst eb
                exact cb
              have HSt := Aside0.mk (Kd.C_string Try.underlying22 Try.underlying5 Try.underlying9 (c := c9) (Kd.C_drew hC9))
              have hq : ((strOfNums (v.1.take m)).toList == ((bs (txtI v.1)).extract 0 m).toList) = true := by
                rw [Ext.eq_dec, cut_bs2, bs_data]
                exact decide_eq_true (txt_take v.1 m)
              have hms : (m : Int) ≤ ((bs (txtI v.1)).size : Int) := by rw [hsz]; omega
              clear hr hb hc9 hC9 hk9
              rw [hlm]
              clear hlm
              generalize strOfNums (v.1.take m) = sx at *
              generalize bs (txtI v.1) = sy at *
              go_wp2_with fail
              refine start_ (n := 16) (S := fun w' => w'.cell? ⟨g3, 1, none⟩ = some (.slice (some ⟨gb, 0, none⟩) es.length d2) ∧ w'.cell? ⟨gb, j, none⟩ = some (.string sy) ∧ (convert 22 9 (.slice A9 m c9)).run Try.prog w' = .ok (.string sx) w') (ds := []) #[false, false, false, false, false, false, false, false, false, false, false, false, false, false, false, false] (by kernel_rfl) rfl rfl ⟨k1, cb', HSt.out⟩ (fun hHeld => ?_)
              refine pure_ (i := 0) (N := some 112) (v := ?_) (a' := ?_) #[true, false, false, false, false, false, false, false, false, false, false, false, false, false, false, false] rfl rfl (by kernel_rfl) (fun _ _ _ h => h) (Or.inl ⟨by rfl, ?_⟩) ?_ ?_
              rotate_left
              · intro w'
                go_simp
                with_reducible rfl
              rotate_left
              · simp only [Act.put, List.setIfInBounds_toArray, List.set_cons_zero, List.set_cons_succ, i64_w, i32_w]
                rfl
              refine pure_ (i := 1) (N := some 113) (v := ?_) (a' := ?_) #[true, true, false, false, false, false, false, false, false, false, false, false, false, false, false, false] rfl rfl (by kernel_rfl) (fun _ _ _ h => h) (Or.inl ⟨by rfl, ?_⟩) ?_ ?_
              rotate_left
              · intro w'
                go_simp
                with_reducible rfl
              rotate_left
              · simp only [Act.put, List.setIfInBounds_toArray, List.set_cons_zero, List.set_cons_succ, i64_w, i32_w]
                rfl
              refine pure_ (i := 2) (N := some 114) (v := ?_) (a' := ?_) #[true, true, true, false, false, false, false, false, false, false, false, false, false, false, false, false] rfl rfl (by kernel_rfl) (fun _ _ _ h => h) (Or.inl ⟨by rfl, ?_⟩) ?_ ?_
              rotate_left
              · intro w'
                go_simp
                with_reducible rfl
              rotate_left
              · simp only [Act.put, List.setIfInBounds_toArray, List.set_cons_zero, List.set_cons_succ, i64_w, i32_w]
                rfl
              refine pure_ (i := 3) (N := some 115) (v := ?_) (a' := ?_) #[true, true, true, true, false, false, false, false, false, false, false, false, false, false, false, false] rfl rfl (by kernel_rfl) (fun _ _ _ h => h) (Or.inl ⟨by rfl, ?_⟩) ?_ ?_
              rotate_left
              · intro w'
                go_simp
                with_reducible rfl
              rotate_left
              · simp only [Act.put, List.setIfInBounds_toArray, List.set_cons_zero, List.set_cons_succ, i64_w, i32_w]
                rfl
              refine pure_ (i := 5) (N := some 117) (v := ?_) (a' := ?_) #[true, true, true, true, false, true, false, false, false, false, false, false, false, false, false, false] rfl rfl (by kernel_rfl) (fun _ _ _ h => h) (Or.inl ⟨by rfl, ?_⟩) ?_ ?_
              rotate_left
              · intro w'
                go_simp
                with_reducible rfl
              rotate_left
              · simp only [Act.put, List.setIfInBounds_toArray, List.set_cons_zero, List.set_cons_succ, i64_w, i32_w]
                rfl
              refine pure_ (i := 6) (N := some 118) (v := ?_) (a' := ?_) #[true, true, true, true, false, true, true, false, false, false, false, false, false, false, false, false] rfl rfl (by kernel_rfl) (fun _ _ _ h => h) (Or.inl ⟨by rfl, ?_⟩) ?_ ?_
              rotate_left
              · intro w'
                go_simp
                with_reducible rfl
              rotate_left
              · simp only [Act.put, List.setIfInBounds_toArray, List.set_cons_zero, List.set_cons_succ, i64_w, i32_w]
                rfl
              refine pure_ (i := 7) (N := some 119) (v := ?_) (a' := ?_) #[true, true, true, true, false, true, true, true, false, false, false, false, false, false, false, false] rfl rfl (by kernel_rfl) (fun _ _ _ h => h) (Or.inl ⟨by rfl, ?_⟩) ?_ ?_
              rotate_left
              · intro w'
                go_simp
                with_reducible rfl
              rotate_left
              · simp only [Act.put, List.setIfInBounds_toArray, List.set_cons_zero, List.set_cons_succ, i64_w, i32_w]
                rfl
              refine pure_ (i := 9) (N := some 121) (v := ?_) (a' := ?_) #[true, true, true, true, false, true, true, true, false, true, false, false, false, false, false, false] rfl rfl (by kernel_rfl) (fun _ _ _ h => h) (Or.inl ⟨by rfl, ?_⟩) ?_ ?_
              rotate_left
              · intro w'
                go_simp
                with_reducible rfl
              rotate_left
              · simp only [Act.put, List.setIfInBounds_toArray, List.set_cons_zero, List.set_cons_succ, i64_w, i32_w]
                rfl
              refine pure_ (i := 12) (N := some 124) (v := ?_) (a' := ?_) #[true, true, true, true, false, true, true, true, false, true, false, false, true, false, false, false] rfl rfl (by kernel_rfl) (fun _ _ _ h => h) (Or.inl ⟨by rfl, ?_⟩) ?_ ?_
              rotate_left
              · intro w'
                go_simp
                with_reducible rfl
              rotate_left
              · simp only [Act.put, List.setIfInBounds_toArray, List.set_cons_zero, List.set_cons_succ, i64_w, i32_w]
                rfl
              refine take_ (i := 4) (N := some 116) (v := ?_) (a' := ?_) #[true, true, true, true, true, true, true, true, false, true, false, false, true, false, false, false] rfl rfl (by kernel_rfl) (fun _ _ _ h => h) (Or.inl ⟨by rfl, ?_⟩) hHeld ?_ ?_
              rotate_left
              · rintro w' ⟨s0, s1, s2⟩
                go_simp
                with_reducible rfl
              rotate_left
              · simp only [Act.put, List.setIfInBounds_toArray, List.set_cons_zero, List.set_cons_succ, i64_w, i32_w]
                rfl
              refine take_ (i := 8) (N := some 120) (v := ?_) (a' := ?_) #[true, true, true, true, true, true, true, true, true, true, false, false, true, false, false, false] rfl rfl (by kernel_rfl) (fun _ _ _ h => h) (Or.inl ⟨by rfl, ?_⟩) hHeld ?_ ?_
              rotate_left
              · rintro w' ⟨s0, s1, s2⟩
                go_simp
                with_reducible rfl
              rotate_left
              · simp only [Act.put, List.setIfInBounds_toArray, List.set_cons_zero, List.set_cons_succ, i64_w, i32_w]
                rfl
              refine pure_ (i := 10) (N := some 122) (v := ?_) (a' := ?_) #[true, true, true, true, true, true, true, true, true, true, true, false, true, false, false, false] rfl rfl (by kernel_rfl) (fun _ _ _ h => h) (Or.inl ⟨by rfl, ?_⟩) ?_ ?_
              rotate_left
              · intro w'
                go_simp
                with_reducible rfl
              rotate_left
              · simp only [Act.put, List.setIfInBounds_toArray, List.set_cons_zero, List.set_cons_succ, i64_w, i32_w]
                rfl
              refine take_ (i := 11) (N := some 123) (v := ?_) (a' := ?_) #[true, true, true, true, true, true, true, true, true, true, true, true, true, false, false, false] rfl rfl (by kernel_rfl) (fun _ _ _ h => h) (Or.inl ⟨by rfl, ?_⟩) hHeld ?_ ?_
              rotate_left
              · rintro w' ⟨s0, s1, s2⟩
                go_simp
                with_reducible rfl
              rotate_left
              · simp only [Act.put, List.setIfInBounds_toArray, List.set_cons_zero, List.set_cons_succ, i64_w, i32_w]
                rfl
              refine pure_ (i := 13) (N := some 125) (v := ?_) (a' := ?_) #[true, true, true, true, true, true, true, true, true, true, true, true, true, true, false, false] rfl rfl (by kernel_rfl) (fun _ _ _ h => h) (Or.inl ⟨by rfl, ?_⟩) ?_ ?_
              rotate_left
              · intro w'
                go_simp
                with_reducible rfl
              rotate_left
              · simp only [Act.put, List.setIfInBounds_toArray, List.set_cons_zero, List.set_cons_succ, i64_w, i32_w]
                rfl
              refine pure_ (i := 14) (N := some 126) (v := ?_) (a' := ?_) #[true, true, true, true, true, true, true, true, true, true, true, true, true, true, true, false] rfl rfl (by kernel_rfl) (fun _ _ _ h => h) (Or.inl ⟨by rfl, ?_⟩) ?_ ?_
              rotate_left
              · intro w'
                go_simp
                with_reducible rfl
              rotate_left
              · simp only [Act.put, List.setIfInBounds_toArray, List.set_cons_zero, List.set_cons_succ, i64_w, i32_w]
                rfl
              refine pure_ (i := 15) (N := some 127) (v := ?_) (a' := ?_) #[true, true, true, true, true, true, true, true, true, true, true, true, true, true, true, true] rfl rfl (by kernel_rfl) (fun _ _ _ h => h) (Or.inl ⟨by rfl, ?_⟩) ?_ ?_
              rotate_left
              · intro w'
                go_simp
                with_reducible rfl
              rotate_left
              · simp only [Act.put, List.setIfInBounds_toArray, List.set_cons_zero, List.set_cons_succ, i64_w, i32_w]
                rfl
              refine done_ (by kernel_rfl) ?_
              go_wp2_with fail
              go_roundw
              case rel => exact .mk (j + 1) (by rw [HW.out]) (by omega) (below_drew HB9.out)
              case measure => rw [HW.out]; simp [intOf]; omega
            · have hp1 : decide (part < (v.1.length : Int) - (v.2 : Int)) = false := decide_eq_false hpt
              have hCm : m = v.1.length := by have := HCl.out; rw [if_neg hpt] at this; omega
              clear hpt hlen hkb hp2 hsyn
              have HCm := Aside0.mk hCm
              clear hCm
              go_wp2_with fail
              rw [← HCm.out]
              clear k0 k1 k2 ca' cb' cc' hp1 hw1
              refine HRd.out.mono ?_
              rintro e w9 ⟨v9, rfl, hr, hb⟩
              obtain ⟨A9, c9, rfl, hc9, hC9⟩ := Kd.R_reads hr
              rw [hlm] at hC9 hc9
              have HB9 := Aside0.mk (below_then HBj.out HBj.out.size hb)
              have hk9 := HK.out.below HB9.out
              have k1 : w9.cell? ⟨g3, 1, none⟩ = some (.slice (some ⟨gb, 0, none⟩) es.length d2) := (blk_cell hk9.blk 1).trans rfl
              have cb' : w9.cell? ⟨gb, j, none⟩ = some (.string (bs (txtI v.1))) := by
                obtain ⟨gb', eb, -, -, cb, -⟩ := hk9.r2.at j (txtI v.1) (by unfold bof; have := HX.out; simp [this])
                injection eb with eb; injection eb with eb
                subst eb
                exact cb
              have HSt := Aside0.mk (Kd.C_string Try.underlying22 Try.underlying5 Try.underlying9 (c := c9) (Kd.C_drew hC9))
              have hq : ((strOfNums (v.1.take m)).toList == ((bs (txtI v.1)).extract 0 m).toList) = true := by
                rw [Ext.eq_dec, cut_bs2, bs_data]
                exact decide_eq_true (txt_take v.1 m)
              have hms : (m : Int) ≤ ((bs (txtI v.1)).size : Int) := by rw [hsz]; omega
              clear hr hb hc9 hC9 hk9
              rw [hlm]
              clear hlm
              generalize strOfNums (v.1.take m) = sx at *
              generalize bs (txtI v.1) = sy at *
              go_wp2_with fail
              refine start_ (n := 16) (S := fun w' => w'.cell? ⟨g3, 1, none⟩ = some (.slice (some ⟨gb, 0, none⟩) es.length d2) ∧ w'.cell? ⟨gb, j, none⟩ = some (.string sy) ∧ (convert 22 9 (.slice A9 m c9)).run Try.prog w' = .ok (.string sx) w') (ds := []) #[false, false, false, false, false, false, false, false, false, false, false, false, false, false, false, false] (by kernel_rfl) rfl rfl ⟨k1, cb', HSt.out⟩ (fun hHeld => ?_)
              refine pure_ (i := 0) (N := some 112) (v := ?_) (a' := ?_) #[true, false, false, false, false, false, false, false, false, false, false, false, false, false, false, false] rfl rfl (by kernel_rfl) (fun _ _ _ h => h) (Or.inl ⟨by rfl, ?_⟩) ?_ ?_
              rotate_left
              · intro w'
                go_simp
                with_reducible rfl
              rotate_left
              · simp only [Act.put, List.setIfInBounds_toArray, List.set_cons_zero, List.set_cons_succ, i64_w, i32_w]
                rfl
              refine pure_ (i := 1) (N := some 113) (v := ?_) (a' := ?_) #[true, true, false, false, false, false, false, false, false, false, false, false, false, false, false, false] rfl rfl (by kernel_rfl) (fun _ _ _ h => h) (Or.inl ⟨by rfl, ?_⟩) ?_ ?_
              rotate_left
              · intro w'
                go_simp
                with_reducible rfl
              rotate_left
              · simp only [Act.put, List.setIfInBounds_toArray, List.set_cons_zero, List.set_cons_succ, i64_w, i32_w]
                rfl
              refine pure_ (i := 2) (N := some 114) (v := ?_) (a' := ?_) #[true, true, true, false, false, false, false, false, false, false, false, false, false, false, false, false] rfl rfl (by kernel_rfl) (fun _ _ _ h => h) (Or.inl ⟨by rfl, ?_⟩) ?_ ?_
              rotate_left
              · intro w'
                go_simp
                with_reducible rfl
              rotate_left
              · simp only [Act.put, List.setIfInBounds_toArray, List.set_cons_zero, List.set_cons_succ, i64_w, i32_w]
                rfl
              refine pure_ (i := 3) (N := some 115) (v := ?_) (a' := ?_) #[true, true, true, true, false, false, false, false, false, false, false, false, false, false, false, false] rfl rfl (by kernel_rfl) (fun _ _ _ h => h) (Or.inl ⟨by rfl, ?_⟩) ?_ ?_
              rotate_left
              · intro w'
                go_simp
                with_reducible rfl
              rotate_left
              · simp only [Act.put, List.setIfInBounds_toArray, List.set_cons_zero, List.set_cons_succ, i64_w, i32_w]
                rfl
              refine pure_ (i := 5) (N := some 117) (v := ?_) (a' := ?_) #[true, true, true, true, false, true, false, false, false, false, false, false, false, false, false, false] rfl rfl (by kernel_rfl) (fun _ _ _ h => h) (Or.inl ⟨by rfl, ?_⟩) ?_ ?_
              rotate_left
              · intro w'
                go_simp
                with_reducible rfl
              rotate_left
              · simp only [Act.put, List.setIfInBounds_toArray, List.set_cons_zero, List.set_cons_succ, i64_w, i32_w]
                rfl
              refine pure_ (i := 6) (N := some 118) (v := ?_) (a' := ?_) #[true, true, true, true, false, true, true, false, false, false, false, false, false, false, false, false] rfl rfl (by kernel_rfl) (fun _ _ _ h => h) (Or.inl ⟨by rfl, ?_⟩) ?_ ?_
              rotate_left
              · intro w'
                go_simp
                with_reducible rfl
              rotate_left
              · simp only [Act.put, List.setIfInBounds_toArray, List.set_cons_zero, List.set_cons_succ, i64_w, i32_w]
                rfl
              refine pure_ (i := 7) (N := some 119) (v := ?_) (a' := ?_) #[true, true, true, true, false, true, true, true, false, false, false, false, false, false, false, false] rfl rfl (by kernel_rfl) (fun _ _ _ h => h) (Or.inl ⟨by rfl, ?_⟩) ?_ ?_
              rotate_left
              · intro w'
                go_simp
                with_reducible rfl
              rotate_left
              · simp only [Act.put, List.setIfInBounds_toArray, List.set_cons_zero, List.set_cons_succ, i64_w, i32_w]
                rfl
              refine pure_ (i := 9) (N := some 121) (v := ?_) (a' := ?_) #[true, true, true, true, false, true, true, true, false, true, false, false, false, false, false, false] rfl rfl (by kernel_rfl) (fun _ _ _ h => h) (Or.inl ⟨by rfl, ?_⟩) ?_ ?_
              rotate_left
              · intro w'
                go_simp
                with_reducible rfl
              rotate_left
              · simp only [Act.put, List.setIfInBounds_toArray, List.set_cons_zero, List.set_cons_succ, i64_w, i32_w]
                rfl
              refine pure_ (i := 12) (N := some 124) (v := ?_) (a' := ?_) #[true, true, true, true, false, true, true, true, false, true, false, false, true, false, false, false] rfl rfl (by kernel_rfl) (fun _ _ _ h => h) (Or.inl ⟨by rfl, ?_⟩) ?_ ?_
              rotate_left
              · intro w'
                go_simp
                with_reducible rfl
              rotate_left
              · simp only [Act.put, List.setIfInBounds_toArray, List.set_cons_zero, List.set_cons_succ, i64_w, i32_w]
                rfl
              refine take_ (i := 4) (N := some 116) (v := ?_) (a' := ?_) #[true, true, true, true, true, true, true, true, false, true, false, false, true, false, false, false] rfl rfl (by kernel_rfl) (fun _ _ _ h => h) (Or.inl ⟨by rfl, ?_⟩) hHeld ?_ ?_
              rotate_left
              · rintro w' ⟨s0, s1, s2⟩
                go_simp
                with_reducible rfl
              rotate_left
              · simp only [Act.put, List.setIfInBounds_toArray, List.set_cons_zero, List.set_cons_succ, i64_w, i32_w]
                rfl
              refine take_ (i := 8) (N := some 120) (v := ?_) (a' := ?_) #[true, true, true, true, true, true, true, true, true, true, false, false, true, false, false, false] rfl rfl (by kernel_rfl) (fun _ _ _ h => h) (Or.inl ⟨by rfl, ?_⟩) hHeld ?_ ?_
              rotate_left
              · rintro w' ⟨s0, s1, s2⟩
                go_simp
                with_reducible rfl
              rotate_left
              · simp only [Act.put, List.setIfInBounds_toArray, List.set_cons_zero, List.set_cons_succ, i64_w, i32_w]
                rfl
              refine pure_ (i := 10) (N := some 122) (v := ?_) (a' := ?_) #[true, true, true, true, true, true, true, true, true, true, true, false, true, false, false, false] rfl rfl (by kernel_rfl) (fun _ _ _ h => h) (Or.inl ⟨by rfl, ?_⟩) ?_ ?_
              rotate_left
              · intro w'
                go_simp
                with_reducible rfl
              rotate_left
              · simp only [Act.put, List.setIfInBounds_toArray, List.set_cons_zero, List.set_cons_succ, i64_w, i32_w]
                rfl
              refine take_ (i := 11) (N := some 123) (v := ?_) (a' := ?_) #[true, true, true, true, true, true, true, true, true, true, true, true, true, false, false, false] rfl rfl (by kernel_rfl) (fun _ _ _ h => h) (Or.inl ⟨by rfl, ?_⟩) hHeld ?_ ?_
              rotate_left
              · rintro w' ⟨s0, s1, s2⟩
                go_simp
                with_reducible rfl
              rotate_left
              · simp only [Act.put, List.setIfInBounds_toArray, List.set_cons_zero, List.set_cons_succ, i64_w, i32_w]
                rfl
              refine pure_ (i := 13) (N := some 125) (v := ?_) (a' := ?_) #[true, true, true, true, true, true, true, true, true, true, true, true, true, true, false, false] rfl rfl (by kernel_rfl) (fun _ _ _ h => h) (Or.inl ⟨by rfl, ?_⟩) ?_ ?_
              rotate_left
              · intro w'
                go_simp
                with_reducible rfl
              rotate_left
              · simp only [Act.put, List.setIfInBounds_toArray, List.set_cons_zero, List.set_cons_succ, i64_w, i32_w]
                rfl
              refine pure_ (i := 14) (N := some 126) (v := ?_) (a' := ?_) #[true, true, true, true, true, true, true, true, true, true, true, true, true, true, true, false] rfl rfl (by kernel_rfl) (fun _ _ _ h => h) (Or.inl ⟨by rfl, ?_⟩) ?_ ?_
              rotate_left
              · intro w'
                go_simp
                with_reducible rfl
              rotate_left
              · simp only [Act.put, List.setIfInBounds_toArray, List.set_cons_zero, List.set_cons_succ, i64_w, i32_w]
                rfl
              refine pure_ (i := 15) (N := some 127) (v := ?_) (a' := ?_) #[true, true, true, true, true, true, true, true, true, true, true, true, true, true, true, true] rfl rfl (by kernel_rfl) (fun _ _ _ h => h) (Or.inl ⟨by rfl, ?_⟩) ?_ ?_
              rotate_left
              · intro w'
                go_simp
                with_reducible rfl
              rotate_left
              · simp only [Act.put, List.setIfInBounds_toArray, List.set_cons_zero, List.set_cons_succ, i64_w, i32_w]
                rfl
              refine done_ (by kernel_rfl) ?_
              go_wp2_with fail
              go_roundw
              case rel => exact .mk (j + 1) (by rw [HW.out]) (by omega) (below_drew HB9.out)
              case measure => rw [HW.out]; simp [intOf]; omega
          · obtain rfl : j = es.length := by omega
            have hjj : ¬ (es.length : Int) < (es.length : Int) := by omega
            clear hlt hj
            go_wp2_with fail
            go_ret
            exact ⟨rfl, below_then HW8.out HW8.out.size HBj.out⟩
    · have hii : ¬ (i : Int) < (ops.length : Int) := by omega
      clear h1
      obtain ⟨d, es, Od, Ob, hI, hz, hcut, hd, hb, hap, hlo, hB⟩ := HR.out
      have HI := Aside0.mk hI
      have HZ := Aside0.mk hz
      have HDk := Aside0.mk hd
      have HBk := Aside0.mk hb
      have HAp := Aside0.mk hap
      have HLo := Aside0.mk hlo
      have HBw := Aside0.mk hB
      clear hI hz hcut hd hb hap hlo hB HR
      go_wp2_with fail
      refine (Cut_calls wr Od p d part HDk.out HI.out.off).mono ?_
      rintro e w5 ⟨rfl, hd, ho⟩
      have HD5 := Aside0.mk hd
      have HB5 := Aside0.mk (HBk.out.step ho (fun k hk _ h2 => HAp.out k h2 hk))
      have HW5 := Aside0.mk (HBw.out.trans (ho.below HBw.out.size (fun k hk => HLo.out k (.inl hk))))
      clear hd ho HDk HBk HBw
      go_wp2_with fail
      refine (off_calls w5 Od p _ HD5.out).mono ?_
      rintro e w6 ⟨rfl, hb⟩
      have HD6 := Aside0.mk (HD5.out.below hb)
      have HB6 := Aside0.mk (HB5.out.below hb)
      have HW6 := Aside0.mk (below_then HW5.out HW5.out.size hb)
      clear hb HD5 HB5 HW5
      have hoff : (d.cut part).off = true := rfl
      rw [hoff]
      clear hoff
      go_wp2_with fail
      refine (on_calls w6 Od p _ HD6.out).mono ?_
      rintro e w7 ⟨rfl, hd, ho⟩
      have HD7 := Aside0.mk hd
      have HB7 := Aside0.mk (HB6.out.step ho (fun k hk _ h2 => HAp.out k (by rw [h2]; exact DkAt_okp HD6.out) hk))
      have HW7 := Aside0.mk (HW6.out.trans (ho.below HW6.out.size (fun k hk => HLo.out k (.inl (by rw [hk]; exact DkAt_okp HD6.out)))))
      clear hd ho HD6 HB6 HW6
      obtain ⟨s7, hs7⟩ : ∃ s7 : DS, s7 = { d.cut part with off := false } := ⟨_, rfl⟩
      rw [← hs7] at HD7
      have HFs := Aside0.mk (show s7.fs = d.fs.map (fun x => (x.1, cut1 part x.2)) by rw [hs7]; rfl)
      have HOff := Aside0.mk (show s7.off = false by rw [hs7])
      clear hs7
      have HLn := Aside0.mk (show s7.fs.length = es.length by rw [HFs.out, List.length_map]; exact HI.out.flen)
      have HNm := Aside0.mk (fun x (hx : x ∈ s7.fs) => (show x.1.length ≤ 64 by
        rw [HFs.out] at hx
        obtain ⟨y, hy, rfl⟩ := List.mem_map.1 hx
        have h1 := look_mem HI.out.ndf hy
        rw [← HI.out.same] at h1
        have h2 := HI.out.named _ (mem_look h1)
        exact named_len h2))
      go_wp2_with fail
      refine (list_calls w7 Od p s7 [] HD7.out (by rw [HLn.out]; have := HI.out.len; omega) (fun x hx => Nat.le_trans (HNm.out x hx) (by decide))).mono ?_
      rintro e w8 ⟨v8, rfl, hr, hb⟩
      obtain ⟨A8, c8, rfl, hc8, hC8⟩ := Kd.R_reads hr
      have HD8 := Aside0.mk (HD7.out.below hb)
      have HB8 := Aside0.mk (HB7.out.below hb)
      have HW8 := Aside0.mk (below_then HW7.out HW7.out.size hb)
      have hll : (listS s7 []).length = es.length := (lists_all HOff.out).trans HLn.out
      rw [hll]
      obtain ⟨A1, A2, A3, n1, n2, n3, d1, d2, d3, hbk⟩ := HB8.out
      obtain rfl : es.length = n1 := by have := hbk.r1.len; rw [← this]; simp [bof]
      obtain rfl : es.length = n2 := by have := hbk.r2.len; rw [← this]; simp [bof]
      obtain rfl : es.length = n3 := by have := hbk.r3.len; rw [← this]; simp [bof]
      have HK := Aside0.mk hbk
      have k0 : w8.cell? ⟨g3, 0, none⟩ = some (.slice A1 es.length d1) := (blk_cell hbk.blk 0).trans rfl
      clear hr hb hc8 hC8 hll hbk HD7 HB7 HW7 HB8
      go_wp2_with fail
      go_loopw [12] (fun v12 w' => RelJ es.length w8 v12 w') (fun v12 _ => es.length - (intOf v12).toNat)
      case atStart => exact .mk 0 rfl (Nat.zero_le _) (Below.refl _ _)
      case round =>
        obtain ⟨j, rfl, hj, hb⟩ := hrel
        have HBj := Aside0.mk hb
        have hk := HK.out.below hb
        have k0 : wr.cell? ⟨g3, 0, none⟩ = some (.slice A1 es.length d1) := (blk_cell hk.blk 0).trans rfl
        have k1 : wr.cell? ⟨g3, 1, none⟩ = some (.slice A2 es.length d2) := (blk_cell hk.blk 1).trans rfl
        have k2 : wr.cell? ⟨g3, 2, none⟩ = some (.slice A3 es.length d3) := (blk_cell hk.blk 2).trans rfl
        have HDj := Aside0.mk (HD8.out.below hb)
        clear hb
        by_cases hlt : j < es.length
        · have hjj : (j : Int) < (es.length : Int) := by omega
          have HW := Aside0.mk (wrapN (k := j) (by have := HI.out.len; omega))
          obtain ⟨⟨nm, v⟩, hx⟩ : ∃ x, es[j]? = some x := ⟨_, List.getElem?_eq_getElem hlt⟩
          have HX := Aside0.mk hx
          obtain ⟨ga, ea, -, -, ca, -⟩ := hk.r1.at j nm (by unfold bof; simp [hx])
          obtain ⟨gb, eb, -, -, cb, -⟩ := hk.r2.at j (txtI v.1) (by unfold bof; simp [hx])
          obtain ⟨gc, ec, -, -, cc, -⟩ := hk.r3.at j (v.2 : Int) (by unfold bof; simp [hx])
          subst ea eb ec
          have ca' : wr.cell? ⟨ga, j, none⟩ = some (.string (bs nm)) := ca
          have cb' : wr.cell? ⟨gb, j, none⟩ = some (.string (bs (txtI v.1))) := cb
          have cc' : wr.cell? ⟨gc, j, none⟩ = some (.int .i64 (v.2 : Int)) := cc
          have hsz : (bs (txtI v.1)).size = v.1.length := by rw [bs_size, txt_len]
          have hsyn : v.2 ≤ v.1.length := HI.out.syn (nm, v) (List.mem_of_getElem? hx)
          have hlen : v.1.length ≤ 1000 * KB := by have := HZ.out (nm, v) (List.mem_of_getElem? hx); have h2 := HI.out.len; exact Nat.le_trans this (Nat.mul_le_mul_right _ (by omega))
          clear hk ca cb cc hx
          have HLk := Aside0.mk (show look s7.fs nm = some (cut1 part v) by
            rw [HFs.out, look_map, ← HI.out.same, look_mem HI.out.nde (List.mem_of_getElem? HX.out)]; rfl)
          have HNmd := Aside0.mk (show named nm = true from HI.out.named (nm, v) (List.mem_of_getElem? HX.out))
          have hkb : KB = 8589934592 := rfl
          have HCl := Aside0.mk (cut_len part v hsyn)
          obtain ⟨m, hm⟩ : ∃ m, m = v.2 + (min (max part 0) ((v.1.length : Int) - v.2)).toNat := ⟨_, rfl⟩
          have hmle : m ≤ v.1.length := by rw [hm]; omega
          have HCut := Aside0.mk (show cut1 part v = (v.1.take m, m) by rw [hm]; rfl)
          rw [← hm] at HCl
          clear hm
          have hp2 : -9223372036854775808 ≤ part := HPart.out.1
          have hw1 : wrap64 ((v.1.length : Int) - (v.2 : Int)) = (v.1.length : Int) - (v.2 : Int) := by unfold wrap64; omega
          have HRd := Aside0.mk (read_yes wr Od p s7 nm HDj.out (fun t ht => by rw [List.mem_singleton.1 ht]; have := named_len HNmd.out; omega) (by
            have h1 := HOff.out; have h2 := HNmd.out; have h3 := HLk.out; simp [refuse, h1, h2, h3]) (by
            rw [HLk.out, HCut.out]; show (v.1.take m).length ≤ _; rw [List.length_take]; omega))
          rw [HLk.out, HCut.out] at HRd
          simp only [Option.getD_some] at HRd
          have hlm : (v.1.take m).length = m := by rw [List.length_take]; omega
          by_cases hpt : part < (v.1.length : Int) - v.2
          · have hp1 : decide (part < (v.1.length : Int) - (v.2 : Int)) = true := decide_eq_true hpt
            have HCm := Aside0.mk (show (m : Int) = (v.2 : Int) + max part 0 by rw [HCl.out, if_pos hpt])
            have hw2 : wrap64 ((v.2 : Int) + max part 0) = (m : Int) := by
              rw [HCm.out]; unfold wrap64; omega
            clear hpt hlen hkb hp2 hsyn
            have HW2 := Aside0.mk hw2
            clear hw2
            go_wp2_with fail
            rw [HW2.out]
            clear k0 k1 k2 ca' cb' cc' hp1 hw1
            refine HRd.out.mono ?_
            rintro e w9 ⟨v9, rfl, hr, hb⟩
            obtain ⟨A9, c9, rfl, hc9, hC9⟩ := Kd.R_reads hr
            rw [hlm] at hC9 hc9
            have HB9 := Aside0.mk (below_then HBj.out HBj.out.size hb)
            have hk9 := HK.out.below HB9.out
            have k1 : w9.cell? ⟨g3, 1, none⟩ = some (.slice (some ⟨gb, 0, none⟩) es.length d2) := (blk_cell hk9.blk 1).trans rfl
            have cb' : w9.cell? ⟨gb, j, none⟩ = some (.string (bs (txtI v.1))) := by
              obtain ⟨gb', eb, -, -, cb, -⟩ := hk9.r2.at j (txtI v.1) (by unfold bof; have := HX.out; simp [this])
              injection eb with eb; injection eb with eb
              subst eb
              exact cb
            have HSt := Aside0.mk (Kd.C_string Try.underlying22 Try.underlying5 Try.underlying9 (c := c9) (Kd.C_drew hC9))
            have hq : ((strOfNums (v.1.take m)).toList == ((bs (txtI v.1)).extract 0 m).toList) = true := by
              rw [Ext.eq_dec, cut_bs2, bs_data]
              exact decide_eq_true (txt_take v.1 m)
            have hms : (m : Int) ≤ ((bs (txtI v.1)).size : Int) := by rw [hsz]; omega
            clear hr hb hc9 hC9 hk9
            rw [hlm]
            clear hlm
            generalize strOfNums (v.1.take m) = sx at *
            generalize bs (txtI v.1) = sy at *
            go_wp2_with fail
            refine start_ (n := 16) (S := fun w' => w'.cell? ⟨g3, 1, none⟩ = some (.slice (some ⟨gb, 0, none⟩) es.length d2) ∧ w'.cell? ⟨gb, j, none⟩ = some (.string sy) ∧ (convert 22 9 (.slice A9 m c9)).run Try.prog w' = .ok (.string sx) w') (ds := []) #[false, false, false, false, false, false, false, false, false, false, false, false, false, false, false, false] (by kernel_rfl) rfl rfl ⟨k1, cb', HSt.out⟩ (fun hHeld => ?_)
            refine pure_ (i := 0) (N := some 112) (v := ?_) (a' := ?_) #[true, false, false, false, false, false, false, false, false, false, false, false, false, false, false, false] rfl rfl (by kernel_rfl) (fun _ _ _ h => h) (Or.inl ⟨by rfl, ?_⟩) ?_ ?_
            rotate_left
            · intro w'
              go_simp
              with_reducible rfl
            rotate_left
            · simp only [Act.put, List.setIfInBounds_toArray, List.set_cons_zero, List.set_cons_succ, i64_w, i32_w]
              rfl
            refine pure_ (i := 1) (N := some 113) (v := ?_) (a' := ?_) #[true, true, false, false, false, false, false, false, false, false, false, false, false, false, false, false] rfl rfl (by kernel_rfl) (fun _ _ _ h => h) (Or.inl ⟨by rfl, ?_⟩) ?_ ?_
            rotate_left
            · intro w'
              go_simp
              with_reducible rfl
            rotate_left
            · simp only [Act.put, List.setIfInBounds_toArray, List.set_cons_zero, List.set_cons_succ, i64_w, i32_w]
              rfl
            refine pure_ (i := 2) (N := some 114) (v := ?_) (a' := ?_) #[true, true, true, false, false, false, false, false, false, false, false, false, false, false, false, false] rfl rfl (by kernel_rfl) (fun _ _ _ h => h) (Or.inl ⟨by rfl, ?_⟩) ?_ ?_
            rotate_left
            · intro w'
              go_simp
              with_reducible rfl
            rotate_left
            · simp only [Act.put, List.setIfInBounds_toArray, List.set_cons_zero, List.set_cons_succ, i64_w, i32_w]
              rfl
            refine pure_ (i := 3) (N := some 115) (v := ?_) (a' := ?_) #[true, true, true, true, false, false, false, false, false, false, false, false, false, false, false, false] rfl rfl (by kernel_rfl) (fun _ _ _ h => h) (Or.inl ⟨by rfl, ?_⟩) ?_ ?_
            rotate_left
            · intro w'
              go_simp
              with_reducible rfl
            rotate_left
            · simp only [Act.put, List.setIfInBounds_toArray, List.set_cons_zero, List.set_cons_succ, i64_w, i32_w]
              rfl
            refine pure_ (i := 5) (N := some 117) (v := ?_) (a' := ?_) #[true, true, true, true, false, true, false, false, false, false, false, false, false, false, false, false] rfl rfl (by kernel_rfl) (fun _ _ _ h => h) (Or.inl ⟨by rfl, ?_⟩) ?_ ?_
            rotate_left
            · intro w'
              go_simp
              with_reducible rfl
            rotate_left
            · simp only [Act.put, List.setIfInBounds_toArray, List.set_cons_zero, List.set_cons_succ, i64_w, i32_w]
              rfl
            refine pure_ (i := 6) (N := some 118) (v := ?_) (a' := ?_) #[true, true, true, true, false, true, true, false, false, false, false, false, false, false, false, false] rfl rfl (by kernel_rfl) (fun _ _ _ h => h) (Or.inl ⟨by rfl, ?_⟩) ?_ ?_
            rotate_left
            · intro w'
              go_simp
              with_reducible rfl
            rotate_left
            · simp only [Act.put, List.setIfInBounds_toArray, List.set_cons_zero, List.set_cons_succ, i64_w, i32_w]
              rfl
            refine pure_ (i := 7) (N := some 119) (v := ?_) (a' := ?_) #[true, true, true, true, false, true, true, true, false, false, false, false, false, false, false, false] rfl rfl (by kernel_rfl) (fun _ _ _ h => h) (Or.inl ⟨by rfl, ?_⟩) ?_ ?_
            rotate_left
            · intro w'
              go_simp
              with_reducible rfl
            rotate_left
            · simp only [Act.put, List.setIfInBounds_toArray, List.set_cons_zero, List.set_cons_succ, i64_w, i32_w]
              rfl
            refine pure_ (i := 9) (N := some 121) (v := ?_) (a' := ?_) #[true, true, true, true, false, true, true, true, false, true, false, false, false, false, false, false] rfl rfl (by kernel_rfl) (fun _ _ _ h => h) (Or.inl ⟨by rfl, ?_⟩) ?_ ?_
            rotate_left
            · intro w'
              go_simp
              with_reducible rfl
            rotate_left
            · simp only [Act.put, List.setIfInBounds_toArray, List.set_cons_zero, List.set_cons_succ, i64_w, i32_w]
              rfl
            refine pure_ (i := 12) (N := some 124) (v := ?_) (a' := ?_) #[true, true, true, true, false, true, true, true, false, true, false, false, true, false, false, false] rfl rfl (by kernel_rfl) (fun _ _ _ h => h) (Or.inl ⟨by rfl, ?_⟩) ?_ ?_
            rotate_left
            · intro w'
              go_simp
              with_reducible rfl
            rotate_left
            · simp only [Act.put, List.setIfInBounds_toArray, List.set_cons_zero, List.set_cons_succ, i64_w, i32_w]
              rfl
            refine take_ (i := 4) (N := some 116) (v := ?_) (a' := ?_) #[true, true, true, true, true, true, true, true, false, true, false, false, true, false, false, false] rfl rfl (by kernel_rfl) (fun _ _ _ h => h) (Or.inl ⟨by rfl, ?_⟩) hHeld ?_ ?_
            rotate_left
            · rintro w' ⟨s0, s1, s2⟩
              go_simp
              with_reducible rfl
            rotate_left
            · simp only [Act.put, List.setIfInBounds_toArray, List.set_cons_zero, List.set_cons_succ, i64_w, i32_w]
              rfl
            refine take_ (i := 8) (N := some 120) (v := ?_) (a' := ?_) #[true, true, true, true, true, true, true, true, true, true, false, false, true, false, false, false] rfl rfl (by kernel_rfl) (fun _ _ _ h => h) (Or.inl ⟨by rfl, ?_⟩) hHeld ?_ ?_
            rotate_left
            · rintro w' ⟨s0, s1, s2⟩
              go_simp
              with_reducible rfl
            rotate_left
            · simp only [Act.put, List.setIfInBounds_toArray, List.set_cons_zero, List.set_cons_succ, i64_w, i32_w]
              rfl
            refine pure_ (i := 10) (N := some 122) (v := ?_) (a' := ?_) #[true, true, true, true, true, true, true, true, true, true, true, false, true, false, false, false] rfl rfl (by kernel_rfl) (fun _ _ _ h => h) (Or.inl ⟨by rfl, ?_⟩) ?_ ?_
            rotate_left
            · intro w'
              go_simp
              with_reducible rfl
            rotate_left
            · simp only [Act.put, List.setIfInBounds_toArray, List.set_cons_zero, List.set_cons_succ, i64_w, i32_w]
              rfl
            refine take_ (i := 11) (N := some 123) (v := ?_) (a' := ?_) #[true, true, true, true, true, true, true, true, true, true, true, true, true, false, false, false] rfl rfl (by kernel_rfl) (fun _ _ _ h => h) (Or.inl ⟨by rfl, ?_⟩) hHeld ?_ ?_
            rotate_left
            · rintro w' ⟨s0, s1, s2⟩
              go_simp
              with_reducible rfl
            rotate_left
            · simp only [Act.put, List.setIfInBounds_toArray, List.set_cons_zero, List.set_cons_succ, i64_w, i32_w]
              rfl
            refine pure_ (i := 13) (N := some 125) (v := ?_) (a' := ?_) #[true, true, true, true, true, true, true, true, true, true, true, true, true, true, false, false] rfl rfl (by kernel_rfl) (fun _ _ _ h => h) (Or.inl ⟨by rfl, ?_⟩) ?_ ?_
            rotate_left
            · intro w'
              go_simp
              with_reducible rfl
            rotate_left
            · simp only [Act.put, List.setIfInBounds_toArray, List.set_cons_zero, List.set_cons_succ, i64_w, i32_w]
              rfl
            refine pure_ (i := 14) (N := some 126) (v := ?_) (a' := ?_) #[true, true, true, true, true, true, true, true, true, true, true, true, true, true, true, false] rfl rfl (by kernel_rfl) (fun _ _ _ h => h) (Or.inl ⟨by rfl, ?_⟩) ?_ ?_
            rotate_left
            · intro w'
              go_simp
              with_reducible rfl
            rotate_left
            · simp only [Act.put, List.setIfInBounds_toArray, List.set_cons_zero, List.set_cons_succ, i64_w, i32_w]
              rfl
            refine pure_ (i := 15) (N := some 127) (v := ?_) (a' := ?_) #[true, true, true, true, true, true, true, true, true, true, true, true, true, true, true, true] rfl rfl (by kernel_rfl) (fun _ _ _ h => h) (Or.inl ⟨by rfl, ?_⟩) ?_ ?_
            rotate_left
            · intro w'
              go_simp
              with_reducible rfl
            rotate_left
            · simp only [Act.put, List.setIfInBounds_toArray, List.set_cons_zero, List.set_cons_succ, i64_w, i32_w]
              rfl
            refine done_ (by kernel_rfl) ?_
            go_wp2_with fail
            go_roundw
            case rel => exact .mk (j + 1) (by rw [HW.out]) (by omega) (below_drew HB9.out)
            case measure => rw [HW.out]; simp [intOf]; omega
          · have hp1 : decide (part < (v.1.length : Int) - (v.2 : Int)) = false := decide_eq_false hpt
            have hCm : m = v.1.length := by have := HCl.out; rw [if_neg hpt] at this; omega
            clear hpt hlen hkb hp2 hsyn
            have HCm := Aside0.mk hCm
            clear hCm
            go_wp2_with fail
            rw [← HCm.out]
            clear k0 k1 k2 ca' cb' cc' hp1 hw1
            refine HRd.out.mono ?_
            rintro e w9 ⟨v9, rfl, hr, hb⟩
            obtain ⟨A9, c9, rfl, hc9, hC9⟩ := Kd.R_reads hr
            rw [hlm] at hC9 hc9
            have HB9 := Aside0.mk (below_then HBj.out HBj.out.size hb)
            have hk9 := HK.out.below HB9.out
            have k1 : w9.cell? ⟨g3, 1, none⟩ = some (.slice (some ⟨gb, 0, none⟩) es.length d2) := (blk_cell hk9.blk 1).trans rfl
            have cb' : w9.cell? ⟨gb, j, none⟩ = some (.string (bs (txtI v.1))) := by
              obtain ⟨gb', eb, -, -, cb, -⟩ := hk9.r2.at j (txtI v.1) (by unfold bof; have := HX.out; simp [this])
              injection eb with eb; injection eb with eb
              subst eb
              exact cb
            have HSt := Aside0.mk (Kd.C_string Try.underlying22 Try.underlying5 Try.underlying9 (c := c9) (Kd.C_drew hC9))
            have hq : ((strOfNums (v.1.take m)).toList == ((bs (txtI v.1)).extract 0 m).toList) = true := by
              rw [Ext.eq_dec, cut_bs2, bs_data]
              exact decide_eq_true (txt_take v.1 m)
            have hms : (m : Int) ≤ ((bs (txtI v.1)).size : Int) := by rw [hsz]; omega
            clear hr hb hc9 hC9 hk9
            rw [hlm]
            clear hlm
            generalize strOfNums (v.1.take m) = sx at *
            generalize bs (txtI v.1) = sy at *
            go_wp2_with fail
            refine start_ (n := 16) (S := fun w' => w'.cell? ⟨g3, 1, none⟩ = some (.slice (some ⟨gb, 0, none⟩) es.length d2) ∧ w'.cell? ⟨gb, j, none⟩ = some (.string sy) ∧ (convert 22 9 (.slice A9 m c9)).run Try.prog w' = .ok (.string sx) w') (ds := []) #[false, false, false, false, false, false, false, false, false, false, false, false, false, false, false, false] (by kernel_rfl) rfl rfl ⟨k1, cb', HSt.out⟩ (fun hHeld => ?_)
            refine pure_ (i := 0) (N := some 112) (v := ?_) (a' := ?_) #[true, false, false, false, false, false, false, false, false, false, false, false, false, false, false, false] rfl rfl (by kernel_rfl) (fun _ _ _ h => h) (Or.inl ⟨by rfl, ?_⟩) ?_ ?_
            rotate_left
            · intro w'
              go_simp
              with_reducible rfl
            rotate_left
            · simp only [Act.put, List.setIfInBounds_toArray, List.set_cons_zero, List.set_cons_succ, i64_w, i32_w]
              rfl
            refine pure_ (i := 1) (N := some 113) (v := ?_) (a' := ?_) #[true, true, false, false, false, false, false, false, false, false, false, false, false, false, false, false] rfl rfl (by kernel_rfl) (fun _ _ _ h => h) (Or.inl ⟨by rfl, ?_⟩) ?_ ?_
            rotate_left
            · intro w'
              go_simp
              with_reducible rfl
            rotate_left
            · simp only [Act.put, List.setIfInBounds_toArray, List.set_cons_zero, List.set_cons_succ, i64_w, i32_w]
              rfl
            refine pure_ (i := 2) (N := some 114) (v := ?_) (a' := ?_) #[true, true, true, false, false, false, false, false, false, false, false, false, false, false, false, false] rfl rfl (by kernel_rfl) (fun _ _ _ h => h) (Or.inl ⟨by rfl, ?_⟩) ?_ ?_
            rotate_left
            · intro w'
              go_simp
              with_reducible rfl
            rotate_left
            · simp only [Act.put, List.setIfInBounds_toArray, List.set_cons_zero, List.set_cons_succ, i64_w, i32_w]
              rfl
            refine pure_ (i := 3) (N := some 115) (v := ?_) (a' := ?_) #[true, true, true, true, false, false, false, false, false, false, false, false, false, false, false, false] rfl rfl (by kernel_rfl) (fun _ _ _ h => h) (Or.inl ⟨by rfl, ?_⟩) ?_ ?_
            rotate_left
            · intro w'
              go_simp
              with_reducible rfl
            rotate_left
            · simp only [Act.put, List.setIfInBounds_toArray, List.set_cons_zero, List.set_cons_succ, i64_w, i32_w]
              rfl
            refine pure_ (i := 5) (N := some 117) (v := ?_) (a' := ?_) #[true, true, true, true, false, true, false, false, false, false, false, false, false, false, false, false] rfl rfl (by kernel_rfl) (fun _ _ _ h => h) (Or.inl ⟨by rfl, ?_⟩) ?_ ?_
            rotate_left
            · intro w'
              go_simp
              with_reducible rfl
            rotate_left
            · simp only [Act.put, List.setIfInBounds_toArray, List.set_cons_zero, List.set_cons_succ, i64_w, i32_w]
              rfl
            refine pure_ (i := 6) (N := some 118) (v := ?_) (a' := ?_) #[true, true, true, true, false, true, true, false, false, false, false, false, false, false, false, false] rfl rfl (by kernel_rfl) (fun _ _ _ h => h) (Or.inl ⟨by rfl, ?_⟩) ?_ ?_
            rotate_left
            · intro w'
              go_simp
              with_reducible rfl
            rotate_left
            · simp only [Act.put, List.setIfInBounds_toArray, List.set_cons_zero, List.set_cons_succ, i64_w, i32_w]
              rfl
            refine pure_ (i := 7) (N := some 119) (v := ?_) (a' := ?_) #[true, true, true, true, false, true, true, true, false, false, false, false, false, false, false, false] rfl rfl (by kernel_rfl) (fun _ _ _ h => h) (Or.inl ⟨by rfl, ?_⟩) ?_ ?_
            rotate_left
            · intro w'
              go_simp
              with_reducible rfl
            rotate_left
            · simp only [Act.put, List.setIfInBounds_toArray, List.set_cons_zero, List.set_cons_succ, i64_w, i32_w]
              rfl
            refine pure_ (i := 9) (N := some 121) (v := ?_) (a' := ?_) #[true, true, true, true, false, true, true, true, false, true, false, false, false, false, false, false] rfl rfl (by kernel_rfl) (fun _ _ _ h => h) (Or.inl ⟨by rfl, ?_⟩) ?_ ?_
            rotate_left
            · intro w'
              go_simp
              with_reducible rfl
            rotate_left
            · simp only [Act.put, List.setIfInBounds_toArray, List.set_cons_zero, List.set_cons_succ, i64_w, i32_w]
              rfl
            refine pure_ (i := 12) (N := some 124) (v := ?_) (a' := ?_) #[true, true, true, true, false, true, true, true, false, true, false, false, true, false, false, false] rfl rfl (by kernel_rfl) (fun _ _ _ h => h) (Or.inl ⟨by rfl, ?_⟩) ?_ ?_
            rotate_left
            · intro w'
              go_simp
              with_reducible rfl
            rotate_left
            · simp only [Act.put, List.setIfInBounds_toArray, List.set_cons_zero, List.set_cons_succ, i64_w, i32_w]
              rfl
            refine take_ (i := 4) (N := some 116) (v := ?_) (a' := ?_) #[true, true, true, true, true, true, true, true, false, true, false, false, true, false, false, false] rfl rfl (by kernel_rfl) (fun _ _ _ h => h) (Or.inl ⟨by rfl, ?_⟩) hHeld ?_ ?_
            rotate_left
            · rintro w' ⟨s0, s1, s2⟩
              go_simp
              with_reducible rfl
            rotate_left
            · simp only [Act.put, List.setIfInBounds_toArray, List.set_cons_zero, List.set_cons_succ, i64_w, i32_w]
              rfl
            refine take_ (i := 8) (N := some 120) (v := ?_) (a' := ?_) #[true, true, true, true, true, true, true, true, true, true, false, false, true, false, false, false] rfl rfl (by kernel_rfl) (fun _ _ _ h => h) (Or.inl ⟨by rfl, ?_⟩) hHeld ?_ ?_
            rotate_left
            · rintro w' ⟨s0, s1, s2⟩
              go_simp
              with_reducible rfl
            rotate_left
            · simp only [Act.put, List.setIfInBounds_toArray, List.set_cons_zero, List.set_cons_succ, i64_w, i32_w]
              rfl
            refine pure_ (i := 10) (N := some 122) (v := ?_) (a' := ?_) #[true, true, true, true, true, true, true, true, true, true, true, false, true, false, false, false] rfl rfl (by kernel_rfl) (fun _ _ _ h => h) (Or.inl ⟨by rfl, ?_⟩) ?_ ?_
            rotate_left
            · intro w'
              go_simp
              with_reducible rfl
            rotate_left
            · simp only [Act.put, List.setIfInBounds_toArray, List.set_cons_zero, List.set_cons_succ, i64_w, i32_w]
              rfl
            refine take_ (i := 11) (N := some 123) (v := ?_) (a' := ?_) #[true, true, true, true, true, true, true, true, true, true, true, true, true, false, false, false] rfl rfl (by kernel_rfl) (fun _ _ _ h => h) (Or.inl ⟨by rfl, ?_⟩) hHeld ?_ ?_
            rotate_left
            · rintro w' ⟨s0, s1, s2⟩
              go_simp
              with_reducible rfl
            rotate_left
            · simp only [Act.put, List.setIfInBounds_toArray, List.set_cons_zero, List.set_cons_succ, i64_w, i32_w]
              rfl
            refine pure_ (i := 13) (N := some 125) (v := ?_) (a' := ?_) #[true, true, true, true, true, true, true, true, true, true, true, true, true, true, false, false] rfl rfl (by kernel_rfl) (fun _ _ _ h => h) (Or.inl ⟨by rfl, ?_⟩) ?_ ?_
            rotate_left
            · intro w'
              go_simp
              with_reducible rfl
            rotate_left
            · simp only [Act.put, List.setIfInBounds_toArray, List.set_cons_zero, List.set_cons_succ, i64_w, i32_w]
              rfl
            refine pure_ (i := 14) (N := some 126) (v := ?_) (a' := ?_) #[true, true, true, true, true, true, true, true, true, true, true, true, true, true, true, false] rfl rfl (by kernel_rfl) (fun _ _ _ h => h) (Or.inl ⟨by rfl, ?_⟩) ?_ ?_
            rotate_left
            · intro w'
              go_simp
              with_reducible rfl
            rotate_left
            · simp only [Act.put, List.setIfInBounds_toArray, List.set_cons_zero, List.set_cons_succ, i64_w, i32_w]
              rfl
            refine pure_ (i := 15) (N := some 127) (v := ?_) (a' := ?_) #[true, true, true, true, true, true, true, true, true, true, true, true, true, true, true, true] rfl rfl (by kernel_rfl) (fun _ _ _ h => h) (Or.inl ⟨by rfl, ?_⟩) ?_ ?_
            rotate_left
            · intro w'
              go_simp
              with_reducible rfl
            rotate_left
            · simp only [Act.put, List.setIfInBounds_toArray, List.set_cons_zero, List.set_cons_succ, i64_w, i32_w]
              rfl
            refine done_ (by kernel_rfl) ?_
            go_wp2_with fail
            go_roundw
            case rel => exact .mk (j + 1) (by rw [HW.out]) (by omega) (below_drew HB9.out)
            case measure => rw [HW.out]; simp [intOf]; omega
        · obtain rfl : j = es.length := by omega
          have hjj : ¬ (es.length : Int) < (es.length : Int) := by omega
          clear hlt hj
          go_wp2_with fail
          go_ret
          exact ⟨rfl, below_then HW8.out HW8.out.size HBj.out⟩
end Go.Proofs.Ytabomfmjepmkjaa.Dk
end

section
namespace Go.Proofs.Ytabomfmjepmkjaa.diskKeeps
set_option linter.unusedVariables false
set_option linter.unusedSimpArgs false
open Go.RowKit Go.Proofs.YtabomfmjepmkjaaW.PrintWords Go.Proofs.Ytabomfmjepmkjaa.Lib
open Go.ChangeShapes Go.WideShapes Go.ChangeAt
open Go.ChangeMaps (open_string shut_string)
theorem own : ownKnob Try.prog.godebug = none := by kernel_rfl
theorem laidOut : laidOutB Try.prog = true := by kernel_rfl
open Go.Proofs.Ytabomfmjepmkjaa Go.Proofs.Ytabomfmjepmkjaa.Lib Go.Proofs.Ytabomfmjepmkjaa.ExtB Go.Proofs.Ytabomfmjepmkjaa.Dk
theorem bytesB : (List.range Try.prog.types.size).all (Lib.goodT Try.prog Try.prog.types.size 4096) = true := by kernel_rfl
theorem i64_bd {n : Int} (h : (Lit.int .i64 n).wf = true) : -9223372036854775808 ≤ n ∧ n ≤ 9223372036854775807 := by
  simp only [Lit.wf, Bool.and_eq_true, decide_eq_true_eq] at h; exact h
theorem sizedK {H : Type} {P : Program} {N : Nat} (hM : (List.range N).all (goodT P N 4096) = true) {ds : List (DataW H)} (hk : Rows.uptoSmall H ds = true) (ts : List TypeId) (hts : ts.all (fun t => decide (t < N)) = true) : (DataW.weightsEach P ts ds).all (· ≤ KB) = true := by
  have hb : Rows.uptoBulkAll ds ≤ 1048576 := of_decide_eq_true hk
  rw [List.all_eq_true]
  intro n hn
  have h3 := weights_each_le (good_all hM) (by decide) ds ts (fun t ht => of_decide_eq_true (List.all_eq_true.1 hts t ht)) n hn
  have h4 : Rows.uptoBulkAll ds * (2 * 4096) ≤ 1048576 * 8192 := Nat.mul_le_mul hb (by omega)
  have h5 : 1048576 * 8192 ≤ KB := by decide
  exact decide_eq_true (by omega)
set_option maxRecDepth 100000 in
theorem contract (H : Type) (enc : TypeId × Value → H) (W : World) (base : Nat) (args : Array Value) (ds gs : List (DataW H)) (before : List MemPlace)
    (hval : ∀ (j : Nat) t v, Try.f7.params[j]? = some t → args[j]? = some v → Value.okWide Try.prog W .any base t v)
    (hW : DataW.Whole enc Try.prog Try.f7.params.toList Rows.diskKeepsSpec.vars false W args.toList ds gs before) (hk : Rows.uptoSmall H (ds ++ gs) = true) :
    Calls Try.prog 7 args W fun e W' => ∃ v, e = .returned v ∧ Rows.diskKeepsSpec.post enc Try.prog Try.f7 false true false false W args v W' := by
  have hsz := upto_sized bytesB (by decide) (by decide) hk (Try.f7.params.toList) (by kernel_rfl)
  have hW' := hW
  obtain ⟨p, q, hA0, hV, rfl, hfz, hnd⟩ := hW
  have hA : DataW.TrodAll enc Try.prog W 0 (fun _ => true) true Try.f7.params.toList args.toList ds p := hA0
  rw [Try.params7] at hA hval
  obtain ⟨v0, vs0, d0, ds0, p0, q0, hargs, rfl, rfl, h0, r0⟩ := trodAll_cons hA
  obtain ⟨v1, vs1, d1, ds1, p1, q1, rfl, rfl, rfl, h1, r1⟩ := trodAll_cons r0
  obtain ⟨rfl, rfl, rfl⟩ := trodAll_nil r1
  obtain rfl : args = #[v0, v1] := by cases args; simp_all
  obtain ⟨rfl, rfl⟩ := trodVars_none hV
  have hbulk := of_decide_eq_true hk
  have k0 := h0
  have lt0 : ∀ x ∈ p0, x.block < W.heap.size := by obtain ⟨m, hm⟩ := k0; exact DataW.trod_lt m _ _ _ hm
  have hszK := sizedK bytesB hk (Try.f7.params.toList) (by kernel_rfl)
  obtain ⟨A0, l0, c0, rfl, hl0, hC0, hQ0, hb0⟩ := open_row opens_op Try.underlying34 (by kernel_rfl) (hval 0 _ v0 rfl rfl) h0 hszK 0 rfl rfl
  have k1 := h1
  have lt1 : ∀ x ∈ p1, x.block < W.heap.size := by obtain ⟨m, hm⟩ := k1; exact DataW.trod_lt m _ _ _ hm
  obtain ⟨a1, rfl, _, w1⟩ := open_int Try.underlying3 (hval 1 _ v1 rfl rfl) h1
  clear hA0
  refine (keeps_calls l0 a1 l0.length c0 A0 W hC0 hQ0 (i64_bd w1.2)).mono fun e W' ⟨he, bel⟩ => ?_
  subst he
  exact ⟨_, rfl, _, _, _, [], _, [], hW', trodAll_mk1 (shut_bool Try.underlying4 _), (trodAll_cons_mk (Below.trod laidOut (by kernel_rfl) (of_decide_eq_true (by kernel_rfl)) k0 bel lt0) (trodAll_cons_mk (Below.trod laidOut (by kernel_rfl) (of_decide_eq_true (by kernel_rfl)) k1 bel lt1) trodAll_mk0)), rfl, bel.frame _, fun h => by cases h⟩
set_option maxRecDepth 100000 in
theorem lifted (os : Os) (started : os.Started) (H : Type) (enc : TypeId × Value → H) (F : Stop.Interp) :
    ReturnsInHanded {} Try.checked os 7 .any ((Rows.OpenSpec.upto Rows.diskKeepsSpec).pre6 enc Try.prog Try.f7 Rows.diskKeepsUptoRow.domain false) (((Rows.OpenSpec.upto Rows.diskKeepsSpec).at F).post enc Try.prog Try.f7 false true false false) := by
  refine returnsInHanded_of_cond (C := Try.checked) (s := Rows.OpenSpec.upto Rows.diskKeepsSpec) (k := Rows.uptoSmall) rfl own started (by kernel_rfl) Try.func7
    (OpenSpec.witness (enc := enc) (C := Try.checked) (s := Rows.OpenSpec.upto Rows.diskKeepsSpec) (k := Rows.uptoSmall) rfl false ⟨#[], #[.slice none 0 0, .int .i64 0], []⟩ 8 (by kernel_rfl) (by kernel_rfl) (by kernel_rfl)
      (x := ([.nil, .lit (.int .i64 0)], [], [])) (by kernel_rfl) rfl (by kernel_rfl)) ?_
  intro W base args ds gs before hval hW _ hk _
  exact contract H enc W base args ds gs before hval hW hk
theorem proved : Rows.DiskKeepsUptoSaid :=
  OpenClaim.holds_of_cond 7 Try.f7 rfl rfl rfl rfl rfl rfl rfl ⟨rfl, rfl, rfl, rfl, rfl⟩ rfl rfl rfl rfl rfl (by kernel_rfl) Try.func7 (by kernel_rfl)
    (of_decide_eq_true (by kernel_rfl)) (by unfold Func.isWrapper; first | (rw [if_pos (by decide +kernel)]; kernel_rfl) | (rw [if_neg (by decide +kernel)]; exact ⟨rfl, rfl⟩))
    (fun os started H enc _ F => lifted os started H enc F)
end Go.Proofs.Ytabomfmjepmkjaa.diskKeeps
end
