/- dict.Parse: what it answers. -/
import Derived.Test.YtomgfhapmhagnaaParseD
import Derived.Test.YtomgfhapmhagnaaReader2
import Derived.Test.YtomgfhapmhagnaaDictC
import Derived.Test.YtomgfhapmhagnaaBasE
namespace Go.Proofs.Ytomgfhapmhagnaa.Txt
set_option linter.unusedVariables false
set_option linter.unusedSimpArgs false
open Go.RowKit Go.Proofs.YtomgfhapmhagnaaW.PrintWords Go.Proofs.YtomgfhapmhagnaaW.PrintLast Go.Proofs.YtomgfhapmhagnaaW.PrintMore Go.Proofs.Ytomgfhapmhagnaa.Lib Go.Proofs.Ytomgfhapmhagnaa.Read Go.Proofs.Ytomgfhapmhagnaa.Reader

set_option maxRecDepth 100000 in
set_option maxHeartbeats 400000 in
theorem read_calls (xs : List Int) (n c : Nat) (A : Option Addr) (w : World) (hC : Kd.C (Kd.int .u8) w A n xs) (hc : n ≤ c) (hb : Bytes xs) :
    Calls Try.prog 37 #[.slice A n c] w fun x w' => ∃ g, x = .returned (.pointer (some ⟨g, 0, none⟩)) ∧ Rd w w' g (xs, 0) := by
  have HC := Aside0.mk hC
  clear hC
  go_enter Try.func37, Try.ntmps37
  go_wp2
  go_ret
  exact ⟨w.heap.size, rfl, Nat.le_refl _, below_alloc (Below.refl _ _) _, A, n, c, heap_alloc_new w _, HC.out, hc, hb, fun h => absurd rfl h⟩

/-- A reader in block g, a dictionary on its way in block gd. -/
structure PS (w w' : World) (g gd : Nat) (s : St) (v : Value) (out : List T) : Prop where
  rd : Rd w w' g s
  ne : g ≠ gd
  ge : w.heap.size ≤ gd
  blk : w'.heap[gd]? = some (.cells #[v] 57 (0, 0))
  row : text.R 9 w' w.heap.size (fun k => k ≠ g ∧ k ≠ gd) v out
theorem PS.below {w w' : World} {g gd : Nat} {s : St} {v : Value} {out : List T} (h : PS w w' g gd s v out) : Below w.heap.size w w' := h.rd.below
theorem PS.read {w w' w2 : World} {g gd : Nat} {s s2 : St} {v : Value} {out : List T} (h : PS w w' g gd s v out) (hr : Rd w w2 g s2) (hk : KeepBut w' w2 g none) : PS w w2 g gd s2 v out :=
  ⟨hr, h.ne, h.ge, (hk.2 gd (blk_lt h.blk) h.ne.symm (by simp)).trans h.blk, Kd.R_keep h.row hk (fun k hk => hk.1)⟩
theorem PS.ownne {w w' : World} {g gd : Nat} {s : St} {v : Value} {out : List T} (h : PS w w' g gd s v out) : some g ≠ v.ownBlock ∧ some gd ≠ v.ownBlock :=
  ⟨fun e => (h.row.1 g e.symm).1 rfl, fun e => (h.row.1 gd e.symm).2 rfl⟩
theorem PS.fresh {w w' : World} {g gd : Nat} {s : St} {v : Value} {out : List T} (h : PS w w' g gd s v out) (k : Nat) (hk : w'.heap.size ≤ k) : k ≠ g ∧ k ≠ gd := by
  have h1 := h.rd.lt
  have h2 := blk_lt h.blk
  exact ⟨by omega, by omega⟩
theorem PS.grown {w w' w2 : World} {g gd : Nat} {s : St} {v : Value} {out : List T} (h : PS w w' g gd s v out) (hg : w'.grownBy w2 v.ownBlock) : w2.heap[gd]? = some (.cells #[v] 57 (0, 0)) :=
  (hg.block gd (blk_lt h.blk) h.ownne.2).trans h.blk
theorem PS.push {w w' w2 : World} {g gd : Nat} {s : St} {v v2 : Value} {out out2 : List T} (h : PS w w' g gd s v out) (ho : text.R 9 w2 w.heap.size (fun k => k ≠ g ∧ k ≠ gd) v2 out2) (hb : Below w.heap.size w w2) (hg : w'.grownBy w2 v.ownBlock) :
    PS w (w2.setCell ⟨gd, 0, none⟩ v2) g gd s v2 out2 := by
  have e1 : w2.heap[g]? = w'.heap[g]? := hg.block g h.rd.lt h.ownne.1
  have e2 := h.grown hg
  refine ⟨(h.rd.keep hb e1).keep (below_set hb h.ge) (Below.heap_setCell w2 ⟨gd, 0, none⟩ v2 g h.ne), h.ne, h.ge, blk_put e2 0 _ rfl, Kd.R_far ho (fun k hk => hk.2) v2⟩

theorem cat_bs (was : T) (r : List Int) (j : Nat) : (bs was).extract 0 j ++ strOfNums r = bs (was.take j ++ txt r) := by
  rw [bs_eq, bs_data, ByteArray.data_append, ByteArray.data_extract, Array.toList_append, Array.toList_extract, List.extract_eq_take_drop]
  simp [bs, txt]
theorem cut_bs (p : T) (j : Nat) : (bs p).extract 0 j = bs (p.take j) := by
  rw [bs_eq, bs_data, ByteArray.data_extract, Array.toList_extract, List.extract_eq_take_drop]
  simp [bs]
theorem kW_eq (s : St) (was : T) : (bs was).extract 0 (min (rdU s).1 was.length) ++ strOfNums (rdT (rdU s).2).1 = bs (kW s was) := by
  rw [cat_bs]
  rfl
theorem rest_le (s : St) (h : Ok s) : (rdT (rdU s).2).1.length ≤ s.1.length := by
  have h1 := rdU_left s
  have h2 := (rdC_le (rdU s).2 (rdU_ok s h)).2
  show (List.take _ (rdC 1 (rdU s).2).2.1).length ≤ _
  rw [List.length_take]
  have h3 : (rdC 1 (rdU s).2).2.1.length ≤ (rdU s).2.1.length := by
    unfold rdC
    split
    · exact Nat.zero_le _
    · exact rdU_left _
  omega
theorem st_le (s : St) : (stS s).1.length ≤ s.1.length := by
  have h1 := rdU_left s
  have h3 : (rdC 1 (rdU s).2).2.1.length ≤ (rdU s).2.1.length := by
    unfold rdC
    split
    · exact Nat.zero_le _
    · exact rdU_left _
  show (List.drop _ (rdC 1 (rdU s).2).2.1).length ≤ _
  rw [List.length_drop]
  omega
theorem count_le (b : List Int) : 0 ≤ (rdC 2 (b, 0)).1 ∧ (rdC 2 (b, 0)).1.toNat ≤ b.length ∧ (rdC 2 (b, 0)).2.1.length ≤ b.length := by
  have h1 := rdU_left (b, 0)
  have h1' : (rdU (b, 0)).2.1.length ≤ b.length := h1
  have e : (max (2 : Int) 1).toNat = 2 := by decide
  unfold rdC
  rw [e]
  split
  · exact ⟨Int.le_refl _, Nat.zero_le _, Nat.zero_le _⟩
  · rename_i hn
    refine ⟨Int.natCast_nonneg _, ?_, h1'⟩
    show ((rdU (b, 0)).1 : Int).toNat ≤ _
    rw [Int.toNat_natCast]
    by_cases hz : (rdU (b, 0)).2.2 = 0
    · have : ¬ ((rdU (b, 0)).2.1.length / 2 < (rdU (b, 0)).1) := fun h => hn ⟨hz, h⟩
      omega
    · rw [rdU_bad _ hz]; exact Nat.zero_le _
theorem cutW_len (p : T) : (cutW p).length ≤ 128 := by
  unfold cutW
  split
  · rw [List.length_take]; omega
  · omega

/-- What a parsing answers. -/
def ParseAt (r : Int × Option (List T)) (n : Nat) (e : Ending) (w' : World) : Prop := match r.2 with
  | none => e = .returned (.tuple #[.pointer none, .int .i64 r.1])
  | some l => ∃ g, e = .returned (.tuple #[.pointer (some ⟨g, 0, none⟩), .int .i64 0]) ∧ n ≤ g ∧ DictAt w' g l
set_option maxRecDepth 100000 in
set_option maxHeartbeats 400000 in
theorem parse_calls (b : List Int) (A : Option Addr) (n c : Nat) (w : World) (hC : Kd.C (Kd.int .u8) w A n b) (hc : n ≤ c) (hb : Bytes b) (hn : n ≤ 4194304) :
    Calls Try.prog 20 #[.slice A n c] w fun e w' => ParseAt (parseW b) w.heap.size e w' ∧ Below w.heap.size w w' := by
  have HC := Aside0.mk hC
  have HBy := Aside0.mk hb
  have HN := Aside0.mk (show b.length = n from hC.1)
  obtain ⟨hc0, hc1, hc2⟩ := count_le b
  rw [HN.out] at hc1 hc2
  obtain ⟨s0, hs0⟩ : ∃ s0, (rdC 2 (b, 0)).2 = s0 := ⟨_, rfl⟩
  obtain ⟨m, hm⟩ : ∃ m : Nat, (rdC 2 (b, 0)).1 = (m : Int) := ⟨(rdC 2 (b, 0)).1.toNat, by omega⟩
  have HW := Aside0.mk (show outW b = loopW m s0 [] [] by unfold outW; rw [hm, hs0]; rfl)
  have hmn : m ≤ n := by omega
  rw [hs0] at hc2
  clear hC hb
  go_enter Try.func20, Try.ntmps20
  go_wp2_with fail
  refine (read_calls b n c A w HC.out hc HBy.out).mono ?_
  rintro x w1 ⟨g, rfl, hr⟩
  go_wp2_with fail
  refine (count_calls w w1 g (b, 0) 2 hr (by decide) (by decide)).mono ?_
  rw [hm, hs0]
  rintro x w2 ⟨rfl, hr2, -⟩
  have HR2 := Aside0.mk hr2
  clear hr hr2 hm hs0 hc0 hc1
  go_wp2_with fail
  have HP := Aside0.mk (show PS w (w2.alloc (.cells #[.slice none 0 0] 57)) g w2.heap.size s0 (.slice none 0 0) [] from
    ⟨HR2.out.keep (HR2.out.below.alloc HR2.out.below.size _) (heap_alloc_old _ _ HR2.out.lt), by have := HR2.out.lt; omega, HR2.out.below.size, heap_alloc_new _ _, Kd.R_nil _ _ _ _ _⟩)
  generalize w2.alloc _ = W at *
  generalize w2.heap.size = gd at *
  clear HR2
  go_loopw [7, 20] (fun v7 v20 w' => ∃ (i : Nat) (s : St) (was : T) (out : List T) (v : Value), i ≤ m ∧ v7 = .string (bs was) ∧ v20 = .int .i64 i ∧ was.length ≤ 128 ∧ out.length = i ∧ s.1.length ≤ n ∧ Aside0 (loopW (m - i) s was out = outW b) ∧ Aside0 (PS w w' g gd s v out)) (fun _ v20 _ => m - (intOf v20).toNat)
  case atStart => exact ⟨0, s0, [], [], .slice none 0 0, Nat.zero_le _, rfl, rfl, Nat.zero_le _, rfl, hc2, ⟨HW.out.symm⟩, HP⟩
  case round =>
    clear HP hc2 HW
    obtain ⟨i, s, was, out, v, hi, rfl, rfl, hwl, hol, hsl, HL, HP⟩ := hrel
    by_cases hlt : i < m
    · have hii : (i : Int) < (m : Int) := by omega
      have hsO := HP.out.rd.ok
      have hku := rdU_lt s hsO
      have hrl := rest_le s hsO
      have hst := Aside0.mk (Nat.le_trans (st_le s) hsl)
      have HL2 := Aside0.mk (show loopW (m - (i + 1)) (stS s) (cutW (kW s was)) (out ++ [kW s was]) = outW b by
        have := HL.out
        rw [show m - i = (m - (i + 1)) + 1 by omega, loopW] at this
        exact this)
      have hcat := kW_eq s was
      have hb2 : (bs was).size = was.length := bs_size was
      have hmin : min ((rdU s).1 : Int) ((bs was).size : Int) = ((min (rdU s).1 was.length : Nat) : Int) := by rw [hb2]; omega
      have hwr : IntKind.u64.wrap ((bs was).size : Int) = ((bs was).size : Int) := by show ((bs was).size : Int) % 18446744073709551616 = _; omega
      have hj : min (rdU s).1 was.length ≤ (bs was).size := by omega
      have hrs : (strOfNums (rdT (rdU s).2).1).size ≤ n := by
        have h1 := txt_length (rdT (rdU s).2).1
        have h2 : (strOfNums (rdT (rdU s).2).1).size = (txt (rdT (rdU s).2).1).length := rfl
        omega
      have hcl := Aside0.mk (cutW_len (kW s was))
      have hcu : cutW (kW s was) = if 128 < (kW s was).length then (kW s was).take 64 else kW s was := rfl
      have HTx := Aside0.mk (fun w2 (h : Rd w w2 g (rdU s).2) => Reader.text_calls w w2 g (rdU s).2 h)
      have HSt : Aside0 ((rdT (rdU s).2).2 = stS s) := ⟨rfl⟩
      have HUi := Aside0.mk (Reader.uint_calls w _ g s HP.out.rd)
      have hjb : ((bs was).extract 0 (min (rdU s).1 was.length)).size ≤ 128 := by
        rw [cut_bs, bs_size, List.length_take]; omega
      generalize min (rdU s).1 was.length = j at *
      generalize kW s was = p at *
      generalize strOfNums (rdT (rdU s).2).1 = rest at *
      generalize (rdT (rdU s).2).2 = s2 at *
      obtain rfl := HSt.out
      generalize (rdU s).1 = K at *
      generalize bs was = ws at *
      clear HL hi hrl hsl hku hb2
      go_wp2_with fail
      refine HUi.out.mono ?_
      rintro x w4 ⟨rfl, hr, hk⟩
      have HP4 := Aside0.mk (HP.out.read hr hk)
      clear hr hk HP HUi
      go_wp2_with fail
      refine (HTx.out w4 HP4.out.rd).mono ?_
      rintro x w5 ⟨rfl, hr, hk⟩
      have HP5 := Aside0.mk (HP4.out.read hr hk)
      clear hr hk HP4 HTx
      have hcell := (blk_cell HP5.out.blk 0).trans rfl
      have hfz := blk_frozen HP5.out.blk 0
      clear HC HBy HN
      by_cases hgt : 128 < p.length
      · have hcu2 : cutW p = p.take 64 := by rw [hcu, if_pos hgt]
        have hgi : decide ((128 : Int) < ((bs p).size : Int)) = true := decide_eq_true (by rw [bs_size]; omega)
        have hex : (bs p).extract 0 64 = bs (p.take 64) := cut_bs p 64
        have h64 : (64 : Int) ≤ ((bs p).size : Int) := by rw [bs_size]; omega
        rw [hcu2] at HL2 hcl
        clear hcu hcu2 hgt
        go_wp2_with (first | ((with_reducible refine gate_builtin (b := .append) (xs := #[.tmp 39, .tmp 41]) rfl ?_); at_builtin; refine Kd.R_append text (w0 := w) w.heap.size rfl (.tmp 39) (.tmp 41) 22 9 (.string .empty) 16 rfl Try.underlying22 infos rfl (by decide) (by omega) v out p [.string (bs p)] (fun k => k ≠ g ∧ k ≠ gd) (fun _ => False) rfl rfl rfl (fun _ hk => hk.elim) (fun k hk => HP5.out.fresh k hk) HP5.out.row HP5.out.below HP5.out.below.size (by omega) ?_; intro v6 w6 ho6 hb6 hg6 ha6; obtain ⟨A6, c6, e6⟩ := Kd.R_slice ho6; generalize (out ++ [p]).length = n6 at e6; subst e6; have hblk6 := HP5.out.grown hg6; have hcell6 := (blk_cell hblk6 0).trans rfl; have hfz6 := blk_frozen hblk6 0; have HP6 := Aside0.mk (HP5.out.push ho6 hb6 hg6); clear ho6 hb6 hg6 ha6 hcell hfz HP5 hblk6) | fail)
        go_roundw
        case rel => exact ⟨i + 1, _, p.take 64, out ++ [p], .slice A6 n6 c6, by omega, rfl, by go_num, hcl.out, by rw [List.length_append, List.length_singleton, hol], hst.out, HL2, HP6⟩
        case measure => simp [intOf]; omega
      · have hcu2 : cutW p = p := by rw [hcu, if_neg hgt]
        have hgi : decide ((128 : Int) < ((bs p).size : Int)) = false := decide_eq_false (by rw [bs_size]; omega)
        rw [hcu2] at HL2 hcl
        clear hcu hcu2 hgt
        go_wp2_with (first | ((with_reducible refine gate_builtin (b := .append) (xs := #[.tmp 39, .tmp 41]) rfl ?_); at_builtin; refine Kd.R_append text (w0 := w) w.heap.size rfl (.tmp 39) (.tmp 41) 22 9 (.string .empty) 16 rfl Try.underlying22 infos rfl (by decide) (by omega) v out p [.string (bs p)] (fun k => k ≠ g ∧ k ≠ gd) (fun _ => False) rfl rfl rfl (fun _ hk => hk.elim) (fun k hk => HP5.out.fresh k hk) HP5.out.row HP5.out.below HP5.out.below.size (by omega) ?_; intro v6 w6 ho6 hb6 hg6 ha6; obtain ⟨A6, c6, e6⟩ := Kd.R_slice ho6; generalize (out ++ [p]).length = n6 at e6; subst e6; have hblk6 := HP5.out.grown hg6; have hcell6 := (blk_cell hblk6 0).trans rfl; have hfz6 := blk_frozen hblk6 0; have HP6 := Aside0.mk (HP5.out.push ho6 hb6 hg6); clear ho6 hb6 hg6 ha6 hcell hfz HP5 hblk6) | fail)
        go_roundw
        case rel => exact ⟨i + 1, _, p, out ++ [p], .slice A6 n6 c6, by omega, rfl, by go_num, hcl.out, by rw [List.length_append, List.length_singleton, hol], hst.out, HL2, HP6⟩
        case measure => simp [intOf]; omega
    · have e : m = i := by omega
      subst e
      have HO := Aside0.mk (show outW b = (s, out) by
        have := HL.out
        rw [Nat.sub_self, loopW] at this
        exact this.symm)
      have hlb : out.length * 16 ≤ 140737488355328 := by omega
      clear hlt HL hsl hwl
      generalize bs was = ws at *
      go_wp2_with fail
      refine (Reader.end_calls w _ g s HP.out.rd).mono ?_
      rintro x w4 ⟨rfl, rfl⟩
      by_cases he : rdEnd s = 0
      · rw [he]
        have hcell := (blk_cell HP.out.blk 0).trans rfl
        obtain ⟨A1, c1, e1, hc1, hC1⟩ := Kd.R_reads HP.out.row
        have HC1 := Aside0.mk hC1
        have HBw := Aside0.mk HP.out.below
        subst e1
        have HPW : Aside0 (parseW b = match build out with
            | none => (12, none)
            | some l => if dictBytes l = b then (0, some l) else (12, none)) := ⟨by
          unfold parseW
          rw [HO.out]
          simp only
          rw [he, if_neg (by decide)]
          rfl⟩
        clear hC1 hc1 he HO HP hol
        generalize hol2 : out.length = lo at *
        go_wp2_with fail
        refine (build_calls out A1 lo c1 _ HC1.out (by rw [hol2]; exact hlb)).mono ?_
        cases hbu : build out
        case none =>
          rw [hbu] at HPW
          rintro x w5 ⟨rfl, hb⟩
          have HB5 := Aside0.mk (below_then HBw.out HBw.out.size hb)
          clear hb hbu
          go_wp2_with fail
          go_ret2
          refine ⟨?_, HB5.out⟩
          rw [HPW.out]
          exact rfl
        case some l =>
          rw [hbu] at HPW
          obtain ⟨-, hl, ht, hr⟩ := build_fit hbu
          rintro x w5 ⟨⟨g2, rfl, hg2, hs2⟩, hb⟩
          have HB5 := Aside0.mk (below_then HBw.out HBw.out.size hb)
          have HS5 := Aside0.mk hs2
          have HG2 := Aside0.mk (Nat.le_trans HBw.out.size hg2)
          have HBy2 := Aside0.mk (bytes_calls w5 g2 l hs2 hl ht)
          clear hb hbu hs2 hl ht hr hg2 hlb
          go_wp2_with fail
          refine HBy2.out.mono ?_
          rintro x w6 ⟨v6, rfl, ho, hb⟩
          obtain ⟨A6, c6, rfl, hc6, hC6⟩ := Kd.R_reads ho
          have HB6 := Aside0.mk (below_then HB5.out HB5.out.size hb)
          have HS6 := Aside0.mk (HS5.out.below hb)
          have HC6 := Aside0.mk hC6
          have HCb := Aside0.mk (Kd.C_below HC.out HB6.out)
          clear ho hb hc6 hC6 HBy2
          go_wp2_with fail
          refine (Bas.equal_calls' (dictBytes l) b _ _ A6 A c6 c w6 HC6.out HCb.out).mono ?_
          rintro x w7 ⟨rfl, ⟨dn, rfl⟩⟩
          by_cases hd : dictBytes l = b
          · rw [decide_eq_true hd]
            have HPW := Aside0.mk (HPW.out.trans (if_pos hd))
            clear hd
            go_wp2_with fail
            go_ret2
            refine ⟨?_, below_drewN HB6.out dn⟩
            rw [HPW.out]
            exact ⟨g2, rfl, HG2.out, HS6.out.below (below_drewN (Below.refl _ _) dn)⟩
          · rw [decide_eq_false hd]
            have HPW := Aside0.mk (HPW.out.trans (if_neg hd))
            clear hd
            go_wp2_with fail
            go_ret2
            refine ⟨?_, below_drewN HB6.out dn⟩
            rw [HPW.out]
            exact rfl
      · have hne : (rdEnd s != 0) = true := by rw [bne_iff_ne]; exact he
        have HPW : Aside0 (parseW b = (rdEnd s, none)) := ⟨by
          unfold parseW
          rw [HO.out]
          simp only
          rw [if_pos he]⟩
        have HBw := Aside0.mk HP.out.below
        clear he HO HP hol hlb
        generalize rdEnd s = er at *
        go_wp2_with fail
        go_ret2
        refine ⟨?_, HBw.out⟩
        rw [HPW.out]
        exact rfl
end Go.Proofs.Ytomgfhapmhagnaa.Txt
