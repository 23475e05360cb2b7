/- The reference's Parse: what it answers. -/
import Derived.Test.YtomgfhapmhagnaaParseD
import Derived.Test.YtomgfhapmhagnaaRefReader2
import Derived.Test.YtomgfhapmhagnaaRefDictB
import Derived.Test.YtomgfhapmhagnaaDictP
import Derived.Test.YtomgfhapmhagnaaStrCmp
namespace Go.Proofs.Ytomgfhapmhagnaa.Txt
set_option linter.unusedVariables false
set_option linter.unusedSimpArgs false
open Go.RowKit Go.Proofs.YtomgfhapmhagnaaW.PrintWords Go.Proofs.YtomgfhapmhagnaaW.PrintLast Go.Proofs.YtomgfhapmhagnaaW.PrintMore Go.Proofs.Ytomgfhapmhagnaa.Lib Go.Proofs.Ytomgfhapmhagnaa.Read Go.Proofs.Ytomgfhapmhagnaa.RefReader
attribute [local go_sem high] Go.Proofs.Ytomgfhapmhagnaa.Ext.leq_str

theorem RS.bad {w w' : World} {g : Nat} {s : St} (h : RS w w' g s) : w'.cell? ⟨g, 2, none⟩ = some (.int .i64 s.2) := by
  obtain ⟨xs, a, bad, h, rfl⟩ := h
  obtain ⟨A, n, c, _, _, h2, _⟩ := h.cells
  exact h2
/-- The reader, and the row of one's own. -/
structure QS (w w' : World) (g : Nat) (s : St) (v : Value) (out : List T) : Prop where
  rd : RS w w' g s
  row : text.R 9 w' w.heap.size (fun k => k ≠ g) v out
theorem QS.read {w w' w2 : World} {g : Nat} {s s2 : St} {v : Value} {out : List T} (h : QS w w' g s v out) (hr : RS w w2 g s2) (hk : KeepBut w' w2 g none) : QS w w2 g s2 v out :=
  ⟨hr, Kd.R_keep h.row hk (fun k hk => hk)⟩
theorem QS.fresh {w w' : World} {g : Nat} {s : St} {v : Value} {out : List T} (h : QS w w' g s v out) (k : Nat) (hk : w'.heap.size ≤ k) : k ≠ g := by
  have := h.rd.lt
  omega
theorem QS.push {w w' w2 : World} {g : Nat} {s : St} {v v2 : Value} {out out2 : List T} (h : QS w w' g s v out) (ho : text.R 9 w2 w.heap.size (fun k => k ≠ g) v2 out2) (hb : Below w.heap.size w w2) (hg : w'.grownBy w2 v.ownBlock) : QS w w2 g s v2 out2 :=
  ⟨h.rd.keep hb (hg.block g h.rd.lt (fun e => h.row.1 g e.symm rfl)), ho⟩
theorem newR_bytes (s : St) (was : T) (h : ¬ 64 < (rawR s was).length) : newR s was = rawR s was := by unfold newR; rw [if_neg h]
theorem rawR_len (s : St) (h : Ok s) (was : T) : (rawR s was).length ≤ was.length + s.1.length := by
  have h1 := rest_le s h
  unfold rawR restS
  rw [List.length_append, List.length_take, txt_length]
  omega
theorem wrap_small (K : Nat) (h : K ≤ 64) : wrap64 (K : Int) = (K : Int) := by unfold wrap64; omega
theorem wrap_u (k : Nat) (h : k ≤ 64) : IntKind.u64.wrap (k : Int) = (k : Int) := by show (k : Int) % 18446744073709551616 = _; omega
theorem nums_inj {xs ys : List Int} (hx : Bytes xs) (hy : Bytes ys) (h : strOfNums xs = strOfNums ys) : xs = ys := by
  have h2 : txt xs = txt ys := by unfold txt; rw [h]
  clear h
  induction xs generalizing ys with
  | nil =>
    cases ys with
    | nil => rfl
    | cons y ys => have := congrArg List.length h2; rw [txt_length, txt_length] at this; simp at this
  | cons x xs ih =>
    cases ys with
    | nil => have := congrArg List.length h2; rw [txt_length, txt_length] at this; simp at this
    | cons y ys =>
      have e1 : txt (x :: xs) = UInt8.ofNat x.toNat :: txt xs := rfl
      have e2 : txt (y :: ys) = UInt8.ofNat y.toNat :: txt ys := rfl
      rw [e1, e2] at h2
      injection h2 with h3 h4
      have b1 := hx x List.mem_cons_self
      have b2 := hy y List.mem_cons_self
      have h5 := congrArg UInt8.toNat h3
      simp only [UInt8.toNat_ofNat'] at h5
      rw [ih (fun z hz => hx z (List.mem_cons_of_mem _ hz)) (fun z hz => hy z (List.mem_cons_of_mem _ hz)) h4, show x = y by omega]
theorem below_drews2 {b : Nat} {w w' : World} (h : Below b w w') (n : Nat) : Below b w (w'.drewN n) := below_drewN h n
theorem less_bs (a b : T) : Op.bytesLess (bs a).toList (bs b).toList = decide (a < b) := by rw [less_is, bs_data, bs_data]

set_option maxRecDepth 100000 in
set_option maxHeartbeats 3200000 in
theorem refparse_calls (b : List Int) (A : Option Addr) (n c : Nat) (w : World) (hC : Kd.C (Kd.int .u8) w A n b) (hc : n ≤ c) (hb : Bytes b) (hn : n ≤ 4194304) :
    Calls Try.prog 21 #[.slice A n c] w fun e w' => (∃ v, e = .returned (.tuple #[v, .int .i64 (parseR b).1]) ∧ text.R 9 w' w.heap.size (fun _ => True) v ((parseR b).2.getD [])) ∧ Below w.heap.size w w' := by
  have HC := Aside0.mk hC
  have HBy := Aside0.mk hb
  have HN := Aside0.mk (show b.length = n from hC.1)
  obtain ⟨hc0, hc1, hc2⟩ := count_le b
  rw [HN.out] at hc1 hc2
  obtain ⟨s0, hs0⟩ : ∃ s0, (rdC 2 (b, 0)).2 = s0 := ⟨_, rfl⟩
  obtain ⟨m, hm⟩ : ∃ m : Nat, (rdC 2 (b, 0)).1 = (m : Int) := ⟨(rdC 2 (b, 0)).1.toNat, by omega⟩
  have HW := Aside0.mk (show outR b = loopR m 0 s0 [] [] true by unfold outR; rw [hm, hs0]; rfl)
  have hmn : m ≤ n := by omega
  rw [hs0] at hc2
  clear hC hb
  go_enter Try.func21, Try.ntmps21
  go_wp2_with fail
  have HR1 := Aside0.mk (show RS w (w.alloc (.cells #[.slice A n c, .int .i64 0, .int .i64 0] 76)) w.heap.size (b, 0) from
    ⟨b, 0, 0, ⟨Nat.le_refl _, below_alloc (Below.refl _ _) _, A, n, c, heap_alloc_new _ _, HC.out, hc, HBy.out, Nat.zero_le _⟩, rfl⟩)
  generalize w.alloc _ = w1 at *
  obtain ⟨g, hg⟩ : ∃ g, w.heap.size = g := ⟨_, rfl⟩
  have HGg := Aside0.mk hg
  refine (RefReader.count_calls w w1 _ (b, 0) 2 HR1.out (by decide) (by decide)).mono ?_
  rw [hm, hs0]
  rintro x w2 ⟨rfl, hr2, -⟩
  have HQ := Aside0.mk (show QS w w2 w.heap.size s0 (.slice none 0 0) [] from ⟨hr2, Kd.R_nil _ _ _ _ _⟩)
  generalize hgx : w.heap.size = gx at *
  have HGX := Aside0.mk hgx
  clear hr2 HR1 hm hs0 hc0 hc1 hg HGg g hgx
  go_wp2_with fail
  go_loopw [6, 7, 8, 9] (fun v6 v7 v8 v9 w' => ∃ (i : Nat) (s : St) (was : T) (out : List T) (f : Bool) (v : Value), i ≤ m ∧ v6 = v ∧ v7 = .bool f ∧ v8 = .string (bs was) ∧ v9 = .int .i64 i ∧ was.length ≤ 64 ∧ out.length = i ∧ s.1.length ≤ n ∧ Aside0 (loopR (m - i) i s was out f = outR b) ∧ Aside0 (QS w w' gx s v out)) (fun _ _ _ v9 _ => m - (intOf v9).toNat)
  case atStart => exact ⟨0, s0, [], [], true, .slice none 0 0, Nat.zero_le _, rfl, rfl, rfl, rfl, Nat.zero_le _, rfl, hc2, ⟨HW.out.symm⟩, HQ⟩
  case round =>
    clear HQ hc2 HW
    obtain ⟨i, s, was, out, f, v, hi, rfl, rfl, rfl, rfl, hwl, hol, hsl, HL, HQ⟩ := hrel
    have hbad := RS.bad HQ.out.rd
    by_cases hlt : i < m ∧ s.2 = 0
    · obtain ⟨hlt, hs0⟩ := hlt
      have hii : (i : Int) < (m : Int) := by omega
      have hsO := RS.ok HQ.out.rd
      have hku := rdU_lt s hsO
      have hrl := rest_le s hsO
      have hst := Aside0.mk (Nat.le_trans (st_le s) hsl)
      have HL2 : Aside0 (loopR (m - (i + 1)) (i + 1) (stS s) (newR s was) (out ++ [newR s was]) (f && okR i s was) = outR b) := ⟨by
        have := HL.out
        rw [show m - i = (m - (i + 1)) + 1 by omega, loopR, if_pos hs0] at this
        exact this⟩
      have hnl := newR_le s was
      have hnr : newR s was = if 64 < (rawR s was).length then [] else rawR s was := rfl
      have hok : okR i s was = (decide ((rdU s).1 ≤ was.length) && decide ((rawR s was).length ≤ 64) && !(decide (0 < i) && !decide (was < newR s was))) := rfl
      have hb2 : (bs was).size = was.length := bs_size was
      have hcat : (bs was).extract 0 (if was.length < (rdU s).1 then 0 else (rdU s).1) ++ strOfNums (rdT (rdU s).2).1 = bs (rawR s was) := by rw [cat_bs]; rfl
      have hrs : (strOfNums (rdT (rdU s).2).1).size ≤ n := by
        have h1 := txt_length (rdT (rdU s).2).1
        have h2 : (strOfNums (rdT (rdU s).2).1).size = (txt (rdT (rdU s).2).1).length := rfl
        omega
      have HTx := Aside0.mk (fun w2 (h : RS w w2 gx (rdU s).2) => RefReader.text_calls w w2 gx (rdU s).2 h)
      have HSt : Aside0 ((rdT (rdU s).2).2 = stS s) := ⟨rfl⟩
      have HUi := Aside0.mk (RefReader.uint_calls w _ gx s HQ.out.rd)
      rw [hs0] at hbad
      clear hs0
      generalize newR s was = q at *
      generalize rawR s was = p at *
      generalize okR i s was = ok0 at *
      generalize strOfNums (rdT (rdU s).2).1 = rest at *
      generalize (rdT (rdU s).2).2 = s2 at *
      obtain rfl := HSt.out
      generalize (rdU s).1 = K at *
      have hbd : (out.length + 1) * 16 ≤ 140737488355328 := by omega
      clear HL hi hrl hsl hku
      go_wp2_with fail
      refine HUi.out.mono ?_
      rintro x w4 ⟨rfl, hr, hk⟩
      have HQ4 := Aside0.mk (HQ.out.read hr hk)
      clear hr hk HQ HUi hbad
      go_wp2_with fail
      refine (HTx.out w4 HQ4.out.rd).mono ?_
      rintro x w5 ⟨rfl, hr, hk⟩
      have HQ5 := Aside0.mk (HQ4.out.read hr hk)
      have hbad := RS.bad HQ5.out.rd
      clear hr hk HQ4 HTx HC HBy HN
      have hwr : IntKind.u64.wrap ((bs was).size : Int) = ((bs was).size : Int) := wrap_u (bs was).size (by omega)
      by_cases hK : was.length < K
      · rw [if_pos hK] at hcat
        have hK1 : (bs was).size < K := by omega
        have hx : decide (K ≤ was.length) = false := decide_eq_false (by omega)
        rw [hx, Bool.false_and] at hok
        have hjb : ((bs was).extract 0 0).size ≤ 64 := by rw [cut_bs, bs_size, List.length_take]; omega
        have hre : rest = bs p := by
          have h := (bs_eq _ _).1 hcat
          rw [ByteArray.data_append, cut_bs, Array.toList_append, bs_data, bs_data, List.take_zero, List.nil_append] at h
          rw [bs_eq, bs_data]
          exact h
        subst hre
        clear hK hx hb2 hcat
        by_cases hp : 64 < p.length
        · rw [if_pos hp] at hnr
          subst hnr
          have hgi : decide ((64 : Int) < ((bs p).size : Int)) = true := decide_eq_true (by rw [bs_size]; omega)
          rw [Bool.false_and] at hok
          clear hp
          rcases Nat.eq_zero_or_pos i with hi1 | hi1
          · have hi0 : decide (0 < i) = false := decide_eq_false (by omega)
            rw [hok, Bool.and_false] at HL2
            clear hok hi1
            skip
            go_wp2_with (first | ((with_reducible refine gate_builtin (b := .append) (xs := #[.tmp 55, .tmp 57]) rfl ?_); at_builtin; refine Kd.R_append text (w0 := w) gx rfl (.tmp 55) (.tmp 57) 22 9 (.string .empty) 16 rfl Try.underlying22 infos rfl (by decide) (by decide) u6 out [] [.string ⟨#[]⟩] (fun k => k ≠ gx) (fun _ => False) rfl rfl rfl (fun _ hk => hk.elim) (fun k hk => HQ5.out.fresh k hk) (by have h := HQ5.out.row; rw [HGX.out] at h; exact h) (by have h := RS.below HQ5.out.rd; rw [HGX.out] at h; exact h) (by have h := (RS.below HQ5.out.rd).size; rw [HGX.out] at h; exact h) hbd ?_; intro v6 w6 ho6 hb6 hg6 ha6; obtain ⟨A6, c6, e6⟩ := Kd.R_slice ho6; generalize (out ++ [[]]).length = n6 at e6; subst e6; have HQ6 := Aside0.mk (HQ5.out.push (by rw [HGX.out]; exact ho6) (by rw [HGX.out]; exact hb6) hg6); clear ho6 hb6 hg6 ha6 hbad HQ5) | fail)
            skip
            go_roundw
            case rel => exact ⟨i + 1, _, [], out ++ [[]], false, .slice A6 n6 c6, by omega, rfl, rfl, rfl, by go_num, hnl, by rw [List.length_append, List.length_singleton, hol], hst.out, HL2, HQ6⟩
            case measure => simp [intOf]; omega
          · have hi0 : 0 < i := hi1
            have hi2 : decide (0 < i) = true := decide_eq_true hi1
            have hlw : ¬ was < [] := by intro h; cases h
            have hless : Op.bytesLess (bs was).toList (⟨#[]⟩ : ByteArray).toList = false := by rw [show (⟨#[]⟩ : ByteArray) = bs [] from rfl, less_bs]; exact decide_eq_false hlw
            have hless2 : Op.bytesLess (bs was).toList [] = false := by
              have e : (⟨#[]⟩ : ByteArray).toList = [] := by rw [ByteArray.toList_eq]
              rw [e] at hless; exact hless
            rw [hok, Bool.and_false] at HL2
            clear hok hi2 hlw
            skip
            go_wp2_with (first | ((with_reducible refine gate_builtin (b := .append) (xs := #[.tmp 55, .tmp 57]) rfl ?_); at_builtin; refine Kd.R_append text (w0 := w) gx rfl (.tmp 55) (.tmp 57) 22 9 (.string .empty) 16 rfl Try.underlying22 infos rfl (by decide) (by decide) u6 out [] [.string ⟨#[]⟩] (fun k => k ≠ gx) (fun _ => False) rfl rfl rfl (fun _ hk => hk.elim) (fun k hk => HQ5.out.fresh k hk) (by have h := HQ5.out.row; rw [HGX.out] at h; exact h) (by have h := RS.below HQ5.out.rd; rw [HGX.out] at h; exact h) (by have h := (RS.below HQ5.out.rd).size; rw [HGX.out] at h; exact h) hbd ?_; intro v6 w6 ho6 hb6 hg6 ha6; obtain ⟨A6, c6, e6⟩ := Kd.R_slice ho6; generalize (out ++ [[]]).length = n6 at e6; subst e6; have HQ6 := Aside0.mk (HQ5.out.push (by rw [HGX.out]; exact ho6) (by rw [HGX.out]; exact hb6) hg6); clear ho6 hb6 hg6 ha6 hbad HQ5) | fail)
            skip
            go_roundw
            case rel => exact ⟨i + 1, _, [], out ++ [[]], false, .slice A6 n6 c6, by omega, rfl, rfl, rfl, by go_num, hnl, by rw [List.length_append, List.length_singleton, hol], hst.out, HL2, HQ6⟩
            case measure => simp [intOf]; omega
        · rw [if_neg hp] at hnr
          subst hnr
          have hgi : decide ((64 : Int) < ((bs q).size : Int)) = false := decide_eq_false (by rw [bs_size]; omega)
          rw [Bool.false_and] at hok
          clear hp
          rcases Nat.eq_zero_or_pos i with hi1 | hi1
          · have hi0 : decide (0 < i) = false := decide_eq_false (by omega)
            rw [hok, Bool.and_false] at HL2
            clear hok hi1
            skip
            go_wp2_with (first | ((with_reducible refine gate_builtin (b := .append) (xs := #[.tmp 55, .tmp 57]) rfl ?_); at_builtin; refine Kd.R_append text (w0 := w) gx rfl (.tmp 55) (.tmp 57) 22 9 (.string .empty) 16 rfl Try.underlying22 infos rfl (by decide) (by decide) u6 out q [.string (bs q)] (fun k => k ≠ gx) (fun _ => False) rfl rfl rfl (fun _ hk => hk.elim) (fun k hk => HQ5.out.fresh k hk) (by have h := HQ5.out.row; rw [HGX.out] at h; exact h) (by have h := RS.below HQ5.out.rd; rw [HGX.out] at h; exact h) (by have h := (RS.below HQ5.out.rd).size; rw [HGX.out] at h; exact h) hbd ?_; intro v6 w6 ho6 hb6 hg6 ha6; obtain ⟨A6, c6, e6⟩ := Kd.R_slice ho6; generalize (out ++ [q]).length = n6 at e6; subst e6; have HQ6 := Aside0.mk (HQ5.out.push (by rw [HGX.out]; exact ho6) (by rw [HGX.out]; exact hb6) hg6); clear ho6 hb6 hg6 ha6 hbad HQ5) | fail)
            skip
            go_roundw
            case rel => exact ⟨i + 1, _, q, out ++ [q], false, .slice A6 n6 c6, by omega, rfl, rfl, rfl, by go_num, hnl, by rw [List.length_append, List.length_singleton, hol], hst.out, HL2, HQ6⟩
            case measure => simp [intOf]; omega
          · have hi0 : 0 < i := hi1
            have hi2 : decide (0 < i) = true := decide_eq_true hi1
            by_cases hlw : was < q
            · have hless : Op.bytesLess (bs was).toList ((bs q) : ByteArray).toList = true := by rw [show ((bs q) : ByteArray) = bs q from rfl, less_bs]; exact decide_eq_true hlw
              rw [hok, Bool.and_false] at HL2
              clear hok hi2 hlw
              skip
              go_wp2_with (first | ((with_reducible refine gate_builtin (b := .append) (xs := #[.tmp 55, .tmp 57]) rfl ?_); at_builtin; refine Kd.R_append text (w0 := w) gx rfl (.tmp 55) (.tmp 57) 22 9 (.string .empty) 16 rfl Try.underlying22 infos rfl (by decide) (by decide) u6 out q [.string (bs q)] (fun k => k ≠ gx) (fun _ => False) rfl rfl rfl (fun _ hk => hk.elim) (fun k hk => HQ5.out.fresh k hk) (by have h := HQ5.out.row; rw [HGX.out] at h; exact h) (by have h := RS.below HQ5.out.rd; rw [HGX.out] at h; exact h) (by have h := (RS.below HQ5.out.rd).size; rw [HGX.out] at h; exact h) hbd ?_; intro v6 w6 ho6 hb6 hg6 ha6; obtain ⟨A6, c6, e6⟩ := Kd.R_slice ho6; generalize (out ++ [q]).length = n6 at e6; subst e6; have HQ6 := Aside0.mk (HQ5.out.push (by rw [HGX.out]; exact ho6) (by rw [HGX.out]; exact hb6) hg6); clear ho6 hb6 hg6 ha6 hbad HQ5) | fail)
              skip
              go_roundw
              case rel => exact ⟨i + 1, _, q, out ++ [q], false, .slice A6 n6 c6, by omega, rfl, rfl, rfl, by go_num, hnl, by rw [List.length_append, List.length_singleton, hol], hst.out, HL2, HQ6⟩
              case measure => simp [intOf]; omega
            · have hless : Op.bytesLess (bs was).toList ((bs q) : ByteArray).toList = false := by rw [show ((bs q) : ByteArray) = bs q from rfl, less_bs]; exact decide_eq_false hlw
              rw [hok, Bool.and_false] at HL2
              clear hok hi2 hlw
              skip
              go_wp2_with (first | ((with_reducible refine gate_builtin (b := .append) (xs := #[.tmp 55, .tmp 57]) rfl ?_); at_builtin; refine Kd.R_append text (w0 := w) gx rfl (.tmp 55) (.tmp 57) 22 9 (.string .empty) 16 rfl Try.underlying22 infos rfl (by decide) (by decide) u6 out q [.string (bs q)] (fun k => k ≠ gx) (fun _ => False) rfl rfl rfl (fun _ hk => hk.elim) (fun k hk => HQ5.out.fresh k hk) (by have h := HQ5.out.row; rw [HGX.out] at h; exact h) (by have h := RS.below HQ5.out.rd; rw [HGX.out] at h; exact h) (by have h := (RS.below HQ5.out.rd).size; rw [HGX.out] at h; exact h) hbd ?_; intro v6 w6 ho6 hb6 hg6 ha6; obtain ⟨A6, c6, e6⟩ := Kd.R_slice ho6; generalize (out ++ [q]).length = n6 at e6; subst e6; have HQ6 := Aside0.mk (HQ5.out.push (by rw [HGX.out]; exact ho6) (by rw [HGX.out]; exact hb6) hg6); clear ho6 hb6 hg6 ha6 hbad HQ5) | fail)
              skip
              go_roundw
              case rel => exact ⟨i + 1, _, q, out ++ [q], false, .slice A6 n6 c6, by omega, rfl, rfl, rfl, by go_num, hnl, by rw [List.length_append, List.length_singleton, hol], hst.out, HL2, HQ6⟩
              case measure => simp [intOf]; omega
      · rw [if_neg hK] at hcat
        have hK1 : decide ((bs was).size < K) = false := decide_eq_false (by omega)
        have hK64 : K ≤ 64 := by omega
        have hK2 : K ≤ (bs was).size := by omega
        have hx : decide (K ≤ was.length) = true := decide_eq_true (by omega)
        rw [hx, Bool.true_and] at hok
        have hjb : ((bs was).extract 0 K).size ≤ 64 := by rw [cut_bs, bs_size, List.length_take]; omega
        clear hK hx hb2
        by_cases hp : 64 < p.length
        · rw [if_pos hp] at hnr
          subst hnr
          have hgi : decide ((64 : Int) < ((bs p).size : Int)) = true := decide_eq_true (by rw [bs_size]; omega)
          have hy : decide (p.length ≤ 64) = false := decide_eq_false (by omega)
          rw [hy, Bool.false_and] at hok
          clear hp hy
          rcases Nat.eq_zero_or_pos i with hi1 | hi1
          · have hi0 : decide (0 < i) = false := decide_eq_false (by omega)
            rw [hok, Bool.and_false] at HL2
            clear hok hi1
            skip
            go_wp2_with (first | ((with_reducible refine gate_builtin (b := .append) (xs := #[.tmp 55, .tmp 57]) rfl ?_); at_builtin; refine Kd.R_append text (w0 := w) gx rfl (.tmp 55) (.tmp 57) 22 9 (.string .empty) 16 rfl Try.underlying22 infos rfl (by decide) (by decide) u6 out [] [.string ⟨#[]⟩] (fun k => k ≠ gx) (fun _ => False) rfl rfl rfl (fun _ hk => hk.elim) (fun k hk => HQ5.out.fresh k hk) (by have h := HQ5.out.row; rw [HGX.out] at h; exact h) (by have h := RS.below HQ5.out.rd; rw [HGX.out] at h; exact h) (by have h := (RS.below HQ5.out.rd).size; rw [HGX.out] at h; exact h) hbd ?_; intro v6 w6 ho6 hb6 hg6 ha6; obtain ⟨A6, c6, e6⟩ := Kd.R_slice ho6; generalize (out ++ [[]]).length = n6 at e6; subst e6; have HQ6 := Aside0.mk (HQ5.out.push (by rw [HGX.out]; exact ho6) (by rw [HGX.out]; exact hb6) hg6); clear ho6 hb6 hg6 ha6 hbad HQ5) | fail)
            skip
            go_roundw
            case rel => exact ⟨i + 1, _, [], out ++ [[]], false, .slice A6 n6 c6, by omega, rfl, rfl, rfl, by go_num, hnl, by rw [List.length_append, List.length_singleton, hol], hst.out, HL2, HQ6⟩
            case measure => simp [intOf]; omega
          · have hi0 : 0 < i := hi1
            have hi2 : decide (0 < i) = true := decide_eq_true hi1
            have hlw : ¬ was < [] := by intro h; cases h
            have hless : Op.bytesLess (bs was).toList (⟨#[]⟩ : ByteArray).toList = false := by rw [show (⟨#[]⟩ : ByteArray) = bs [] from rfl, less_bs]; exact decide_eq_false hlw
            have hless2 : Op.bytesLess (bs was).toList [] = false := by
              have e : (⟨#[]⟩ : ByteArray).toList = [] := by rw [ByteArray.toList_eq]
              rw [e] at hless; exact hless
            rw [hok, Bool.and_false] at HL2
            clear hok hi2 hlw
            skip
            go_wp2_with (first | ((with_reducible refine gate_builtin (b := .append) (xs := #[.tmp 55, .tmp 57]) rfl ?_); at_builtin; refine Kd.R_append text (w0 := w) gx rfl (.tmp 55) (.tmp 57) 22 9 (.string .empty) 16 rfl Try.underlying22 infos rfl (by decide) (by decide) u6 out [] [.string ⟨#[]⟩] (fun k => k ≠ gx) (fun _ => False) rfl rfl rfl (fun _ hk => hk.elim) (fun k hk => HQ5.out.fresh k hk) (by have h := HQ5.out.row; rw [HGX.out] at h; exact h) (by have h := RS.below HQ5.out.rd; rw [HGX.out] at h; exact h) (by have h := (RS.below HQ5.out.rd).size; rw [HGX.out] at h; exact h) hbd ?_; intro v6 w6 ho6 hb6 hg6 ha6; obtain ⟨A6, c6, e6⟩ := Kd.R_slice ho6; generalize (out ++ [[]]).length = n6 at e6; subst e6; have HQ6 := Aside0.mk (HQ5.out.push (by rw [HGX.out]; exact ho6) (by rw [HGX.out]; exact hb6) hg6); clear ho6 hb6 hg6 ha6 hbad HQ5) | fail)
            skip
            go_roundw
            case rel => exact ⟨i + 1, _, [], out ++ [[]], false, .slice A6 n6 c6, by omega, rfl, rfl, rfl, by go_num, hnl, by rw [List.length_append, List.length_singleton, hol], hst.out, HL2, HQ6⟩
            case measure => simp [intOf]; omega
        · rw [if_neg hp] at hnr
          subst hnr
          have hgi : decide ((64 : Int) < ((bs q).size : Int)) = false := decide_eq_false (by rw [bs_size]; omega)
          have hy : decide (q.length ≤ 64) = true := decide_eq_true (by omega)
          rw [hy] at hok
          clear hp hy
          rcases Nat.eq_zero_or_pos i with hi1 | hi1
          · have hi0 : decide (0 < i) = false := decide_eq_false (by omega)
            rw [hok, hi0, show (true && !(false && !decide (was < q))) = true by simp, Bool.and_true] at HL2
            clear hok hi1
            skip
            go_wp2_with (first | ((with_reducible refine gate_builtin (b := .append) (xs := #[.tmp 55, .tmp 57]) rfl ?_); at_builtin; refine Kd.R_append text (w0 := w) gx rfl (.tmp 55) (.tmp 57) 22 9 (.string .empty) 16 rfl Try.underlying22 infos rfl (by decide) (by decide) u6 out q [.string (bs q)] (fun k => k ≠ gx) (fun _ => False) rfl rfl rfl (fun _ hk => hk.elim) (fun k hk => HQ5.out.fresh k hk) (by have h := HQ5.out.row; rw [HGX.out] at h; exact h) (by have h := RS.below HQ5.out.rd; rw [HGX.out] at h; exact h) (by have h := (RS.below HQ5.out.rd).size; rw [HGX.out] at h; exact h) hbd ?_; intro v6 w6 ho6 hb6 hg6 ha6; obtain ⟨A6, c6, e6⟩ := Kd.R_slice ho6; generalize (out ++ [q]).length = n6 at e6; subst e6; have HQ6 := Aside0.mk (HQ5.out.push (by rw [HGX.out]; exact ho6) (by rw [HGX.out]; exact hb6) hg6); clear ho6 hb6 hg6 ha6 hbad HQ5) | fail)
            skip
            go_roundw
            case rel => exact ⟨i + 1, _, q, out ++ [q], f, .slice A6 n6 c6, by omega, rfl, rfl, rfl, by go_num, hnl, by rw [List.length_append, List.length_singleton, hol], hst.out, HL2, HQ6⟩
            case measure => simp [intOf]; omega
          · have hi0 : 0 < i := hi1
            have hi2 : decide (0 < i) = true := decide_eq_true hi1
            by_cases hlw : was < q
            · have hless : Op.bytesLess (bs was).toList ((bs q) : ByteArray).toList = true := by rw [show ((bs q) : ByteArray) = bs q from rfl, less_bs]; exact decide_eq_true hlw
              rw [hok, hi2, decide_eq_true hlw, show (true && !(true && !true)) = true by simp, Bool.and_true] at HL2
              clear hok hi2 hlw
              skip
              go_wp2_with (first | ((with_reducible refine gate_builtin (b := .append) (xs := #[.tmp 55, .tmp 57]) rfl ?_); at_builtin; refine Kd.R_append text (w0 := w) gx rfl (.tmp 55) (.tmp 57) 22 9 (.string .empty) 16 rfl Try.underlying22 infos rfl (by decide) (by decide) u6 out q [.string (bs q)] (fun k => k ≠ gx) (fun _ => False) rfl rfl rfl (fun _ hk => hk.elim) (fun k hk => HQ5.out.fresh k hk) (by have h := HQ5.out.row; rw [HGX.out] at h; exact h) (by have h := RS.below HQ5.out.rd; rw [HGX.out] at h; exact h) (by have h := (RS.below HQ5.out.rd).size; rw [HGX.out] at h; exact h) hbd ?_; intro v6 w6 ho6 hb6 hg6 ha6; obtain ⟨A6, c6, e6⟩ := Kd.R_slice ho6; generalize (out ++ [q]).length = n6 at e6; subst e6; have HQ6 := Aside0.mk (HQ5.out.push (by rw [HGX.out]; exact ho6) (by rw [HGX.out]; exact hb6) hg6); clear ho6 hb6 hg6 ha6 hbad HQ5) | fail)
              skip
              go_roundw
              case rel => exact ⟨i + 1, _, q, out ++ [q], f, .slice A6 n6 c6, by omega, rfl, rfl, rfl, by go_num, hnl, by rw [List.length_append, List.length_singleton, hol], hst.out, HL2, HQ6⟩
              case measure => simp [intOf]; omega
            · have hless : Op.bytesLess (bs was).toList ((bs q) : ByteArray).toList = false := by rw [show ((bs q) : ByteArray) = bs q from rfl, less_bs]; exact decide_eq_false hlw
              rw [hok, hi2, decide_eq_false hlw, show (true && !(true && !false)) = false by simp, Bool.and_false] at HL2
              clear hok hi2 hlw
              skip
              go_wp2_with (first | ((with_reducible refine gate_builtin (b := .append) (xs := #[.tmp 55, .tmp 57]) rfl ?_); at_builtin; refine Kd.R_append text (w0 := w) gx rfl (.tmp 55) (.tmp 57) 22 9 (.string .empty) 16 rfl Try.underlying22 infos rfl (by decide) (by decide) u6 out q [.string (bs q)] (fun k => k ≠ gx) (fun _ => False) rfl rfl rfl (fun _ hk => hk.elim) (fun k hk => HQ5.out.fresh k hk) (by have h := HQ5.out.row; rw [HGX.out] at h; exact h) (by have h := RS.below HQ5.out.rd; rw [HGX.out] at h; exact h) (by have h := (RS.below HQ5.out.rd).size; rw [HGX.out] at h; exact h) hbd ?_; intro v6 w6 ho6 hb6 hg6 ha6; obtain ⟨A6, c6, e6⟩ := Kd.R_slice ho6; generalize (out ++ [q]).length = n6 at e6; subst e6; have HQ6 := Aside0.mk (HQ5.out.push (by rw [HGX.out]; exact ho6) (by rw [HGX.out]; exact hb6) hg6); clear ho6 hb6 hg6 ha6 hbad HQ5) | fail)
              skip
              go_roundw
              case rel => exact ⟨i + 1, _, q, out ++ [q], false, .slice A6 n6 c6, by omega, rfl, rfl, rfl, by go_num, hnl, by rw [List.length_append, List.length_singleton, hol], hst.out, HL2, HQ6⟩
              case measure => simp [intOf]; omega
    · by_cases hi2 : i < m
      · have hsb : (s.2 == 0) = false := beq_no (fun h => hlt ⟨hi2, h⟩)
        have hii : (i : Int) < (m : Int) := by omega
        have HO := Aside0.mk (show outR b = (s, out, f) by
          have := HL.out
          rw [show m - i = (m - (i + 1)) + 1 by omega, loopR, if_neg (fun h => hlt ⟨hi2, h⟩)] at this
          exact this.symm)
        clear hlt HL hsl hwl hi2 hi
        generalize bs was = ws at *
        generalize s.2 = s2 at *
        go_wp2_with fail
        refine (RefReader.end_calls w _ gx s HQ.out.rd).mono ?_
        rintro x w4 ⟨rfl, ⟨dn, rfl⟩⟩
        have HB4 := Aside0.mk (below_drewN (RS.below HQ.out.rd) dn)
        have HR4 := Aside0.mk (Kd.R_drewN HQ.out.row dn)
        have HPR := Aside0.mk (show parseR b = if rdEnd s ≠ 0 then (rdEnd s, none) else if f = true ∧ out.length ≤ 4096 ∧ dictBytes out = b then (0, some out) else (12, none) by unfold parseR; rw [HO.out])
        have hl64 : Aside0 (∀ t ∈ out, t.length ≤ 64) := ⟨by
          have := lens_out (rdC 2 (b, 0)).1.toNat 0 (rdC 2 (b, 0)).2 [] [] true (fun t h => absurd h List.not_mem_nil)
          have e : (outR b).2.1 = out := by rw [HO.out]
          rw [← e]; exact this⟩
        generalize wr.drewN dn = w4 at *
        clear HQ HO dn
        by_cases he : rdEnd s = 0
        · rw [if_neg (fun h => h he)] at HPR
          rw [he]
          obtain ⟨A6, c6, e6, hc6, hC6⟩ := Kd.R_reads HR4.out
          have HC6 := Aside0.mk hC6
          subst e6
          have HRb := Aside0.mk (fun w (h : text.C w A6 out.length out) (hm : out.length ≤ 4096) => refbytes_calls out A6 out.length c6 w h hm hl64.out)
          clear hC6 hc6 he hol
          cases f with
          | false =>
            rw [if_neg (fun h => by cases h.1)] at HPR
            clear HRb HC6 HR4
            generalize out.length = lo at *
            go_wp2_with fail
            go_quiet (fail)
            go_wp2_with fail
            go_ret2
            refine ⟨⟨.slice none 0 0, ?_, ?_⟩, below_drews2 HB4.out _⟩
            · rw [HPR.out]; rfl
            · rw [HPR.out]; exact Kd.R_nil _ _ _ _ _
          | true =>
            by_cases hlo : out.length ≤ 4096
            · by_cases hd : dictBytes out = b
              · rw [if_pos ⟨rfl, hlo, hd⟩] at HPR
                have hlo1 : decide ((4096 : Int) < (out.length : Int)) = false := decide_eq_false (by omega)
                have hlo2 : decide (4096 < out.length) = false := decide_eq_false (by omega)
                have HCb := Aside0.mk (Kd.C_below HC.out HB4.out)
                obtain ⟨sb, hsb⟩ : ∃ sb, strOfNums b = sb := ⟨_, rfl⟩
                have HSb := Aside0.mk hsb
                have HSD : Aside0 (strOfNums (dictBytes out) = sb) := ⟨by rw [hd, hsb]⟩
                generalize dictBytes out = D at HRb HSD
                clear hsb hd
                go_wp2_with fail
                refine start_ (n := 15) (S := fun w' => (convert 43 9 (.slice A n c)).run Try.prog w' = .ok (.string sb) w') (ds := []) #[false, false, false, false, false, false, false, false, false, false, false, false, false, false, false] (by kernel_rfl) rfl rfl ((by rw [← HSb.out]; exact Kd.C_string Try.underlying43 Try.underlying5 Try.underlying9 (c := c) (Kd.C_drew HCb.out))) (fun hHeld => ?_)
                refine pure_ (i := 0) (N := some 65) (v := ?_) (a' := ?_) #[true, false, false, false, false, false, false, false, false, false, false, false, false, false, false] rfl rfl (by kernel_rfl) (fun _ _ _ h => h) (Or.inl ⟨by rfl, ?_⟩) ?_ ?_
                rotate_left
                · intro w'
                  go_simp
                  with_reducible rfl
                rotate_left
                · simp only [Act.put, List.setIfInBounds_toArray, List.set_cons_zero, List.set_cons_succ, i64_w, i32_w]
                  rfl
                refine pure_ (i := 1) (N := some 66) (v := ?_) (a' := ?_) #[true, true, false, false, false, false, false, false, false, false, false, false, false, false, false] rfl rfl (by kernel_rfl) (fun _ _ _ h => h) (Or.inl ⟨by rfl, ?_⟩) ?_ ?_
                rotate_left
                · intro w'
                  go_simp
                  with_reducible rfl
                rotate_left
                · simp only [Act.put, List.setIfInBounds_toArray, List.set_cons_zero, List.set_cons_succ, i64_w, i32_w]
                  rfl
                refine pure_ (i := 2) (N := some 67) (v := ?_) (a' := ?_) #[true, true, true, false, false, false, false, false, false, false, false, false, false, false, false] rfl rfl (by kernel_rfl) (fun _ _ _ h => h) (Or.inl ⟨by rfl, ?_⟩) ?_ ?_
                rotate_left
                · intro w'
                  go_simp
                  with_reducible rfl
                rotate_left
                · simp only [Act.put, List.setIfInBounds_toArray, List.set_cons_zero, List.set_cons_succ, i64_w, i32_w]
                  rfl
                refine pure_ (i := 3) (N := some 68) (v := ?_) (a' := ?_) #[true, true, true, true, false, false, false, false, false, false, false, false, false, false, false] rfl rfl (by kernel_rfl) (fun _ _ _ h => h) (Or.inl ⟨by rfl, ?_⟩) ?_ ?_
                rotate_left
                · intro w'
                  go_simp
                  with_reducible rfl
                rotate_left
                · simp only [Act.put, List.setIfInBounds_toArray, List.set_cons_zero, List.set_cons_succ, i64_w, i32_w]
                  rfl
                refine pure_ (i := 4) (N := some 69) (v := ?_) (a' := ?_) #[true, true, true, true, true, false, false, false, false, false, false, false, false, false, false] rfl rfl (by kernel_rfl) (fun _ _ _ h => h) (Or.inl ⟨by rfl, ?_⟩) ?_ ?_
                rotate_left
                · intro w'
                  go_simp
                  with_reducible rfl
                rotate_left
                · simp only [Act.put, List.setIfInBounds_toArray, List.set_cons_zero, List.set_cons_succ, i64_w, i32_w]
                  rfl
                refine pure_ (i := 5) (N := some 70) (v := ?_) (a' := ?_) #[true, true, true, true, true, true, false, false, false, false, false, false, false, false, false] rfl rfl (by kernel_rfl) (fun _ _ _ h => h) (Or.inl ⟨by rfl, ?_⟩) ?_ ?_
                rotate_left
                · intro w'
                  go_simp
                  with_reducible rfl
                rotate_left
                · simp only [Act.put, List.setIfInBounds_toArray, List.set_cons_zero, List.set_cons_succ, i64_w, i32_w]
                  rfl
                refine pure_ (i := 6) (N := some 71) (v := ?_) (a' := ?_) #[true, true, true, true, true, true, true, false, false, false, false, false, false, false, false] rfl rfl (by kernel_rfl) (fun _ _ _ h => h) (Or.inl ⟨by rfl, ?_⟩) ?_ ?_
                rotate_left
                · intro w'
                  go_simp
                  with_reducible rfl
                rotate_left
                · simp only [Act.put, List.setIfInBounds_toArray, List.set_cons_zero, List.set_cons_succ, i64_w, i32_w]
                  rfl
                refine pure_ (i := 7) (N := some 72) (v := ?_) (a' := ?_) #[true, true, true, true, true, true, true, true, false, false, false, false, false, false, false] rfl rfl (by kernel_rfl) (fun _ _ _ h => h) (Or.inl ⟨by rfl, ?_⟩) ?_ ?_
                rotate_left
                · intro w'
                  go_simp
                  with_reducible rfl
                rotate_left
                · simp only [Act.put, List.setIfInBounds_toArray, List.set_cons_zero, List.set_cons_succ, i64_w, i32_w]
                  rfl
                refine pure_ (i := 8) (N := some 73) (v := ?_) (a' := ?_) #[true, true, true, true, true, true, true, true, true, false, false, false, false, false, false] rfl rfl (by kernel_rfl) (fun _ _ _ h => h) (Or.inl ⟨by rfl, ?_⟩) ?_ ?_
                rotate_left
                · intro w'
                  go_simp
                  with_reducible rfl
                rotate_left
                · simp only [Act.put, List.setIfInBounds_toArray, List.set_cons_zero, List.set_cons_succ, i64_w, i32_w]
                  rfl
                refine pure_ (i := 11) (N := some 76) (v := ?_) (a' := ?_) #[true, true, true, true, true, true, true, true, true, false, false, true, false, false, false] rfl rfl (by kernel_rfl) (fun _ _ _ h => h) (Or.inl ⟨by rfl, ?_⟩) ?_ ?_
                rotate_left
                · intro w'
                  go_simp
                  with_reducible rfl
                rotate_left
                · simp only [Act.put, List.setIfInBounds_toArray, List.set_cons_zero, List.set_cons_succ, i64_w, i32_w]
                  rfl
                refine take_ (i := 12) (N := some 77) (v := ?_) (a' := ?_) #[true, true, true, true, true, true, true, true, true, false, false, true, true, false, false] rfl rfl (by kernel_rfl) (fun _ _ _ h => h) (Or.inl ⟨by rfl, ?_⟩) hHeld ?_ ?_
                rotate_left
                · intro w' s0
                  go_simp
                  with_reducible rfl
                rotate_left
                · simp only [Act.put, List.setIfInBounds_toArray, List.set_cons_zero, List.set_cons_succ, i64_w, i32_w]
                  rfl
                refine one_ (i := 9) (N := some 74) #[true, true, true, true, true, true, true, true, true, true, false, true, true, false, false] rfl rfl (by kernel_rfl) (by decide) (fun K hK => ?_)
                refine goes_ Try.func28 (by kernel_rfl) rfl #[.slice A6 out.length c6] (by rfl) rfl rfl (by simp only [List.map_toArray, List.map_cons, List.map_nil]; rfl) ?_
                with_reducible refine (HRb.out _ (Kd.C_drew HC6.out) hlo).mono ?_
                rintro e w5 ⟨v5, rfl, ho, hb⟩
                refine ⟨_, rfl, ?_⟩
                obtain ⟨A7, c7, rfl, hc7, hC7⟩ := Kd.R_reads ho
                have HC7 := Aside0.mk hC7
                have HB5 := Aside0.mk (below_then (below_drew HB4.out) HB4.out.size hb)
                have HCb5 := Aside0.mk (Kd.C_below (Kd.C_drew HCb.out) hb)
                have HR5 := Aside0.mk (Kd.R_below (Kd.R_drew HR4.out) hb)
                clear ho hb hc7 hC7
                refine hK.out _ _ ((by rw [← HSb.out]; exact Kd.C_string Try.underlying43 Try.underlying5 Try.underlying9 (c := c) HCb5.out)) (fun hHeld => ?_)
                clear hK K
                refine norm_ (a' := ?_) ?_ ?_
                rotate_left
                · show Act.put _ (some 74) _ = _
                  simp only [Act.put, List.setIfInBounds_toArray, List.set_cons_zero, List.set_cons_succ, i64_w, i32_w]
                  rfl
                refine more_ (S' := fun w' => (convert 43 9 (.slice A n c)).run Try.prog w' = .ok (.string sb) w' ∧ (convert 43 9 (.slice A7 D.length c7)).run Try.prog w' = .ok (.string sb) w') (fun _ h => (h.1)) ⟨hHeld, (by rw [← HSD.out]; exact Kd.C_string Try.underlying43 Try.underlying5 Try.underlying9 (c := c7) HC7.out)⟩ (fun hHeld => ?_)
                refine take_ (i := 10) (N := some 75) (v := ?_) (a' := ?_) #[true, true, true, true, true, true, true, true, true, true, true, true, true, false, false] rfl rfl (by kernel_rfl) (fun _ _ _ h => h) (Or.inl ⟨by rfl, ?_⟩) hHeld ?_ ?_
                rotate_left
                · rintro w' ⟨s0, s1⟩
                  go_simp
                  with_reducible rfl
                rotate_left
                · simp only [Act.put, List.setIfInBounds_toArray, List.set_cons_zero, List.set_cons_succ, i64_w, i32_w]
                  rfl
                refine pure_ (i := 13) (N := some 78) (v := ?_) (a' := ?_) #[true, true, true, true, true, true, true, true, true, true, true, true, true, true, false] rfl rfl (by kernel_rfl) (fun _ _ _ h => h) (Or.inl ⟨by rfl, ?_⟩) ?_ ?_
                rotate_left
                · intro w'
                  go_simp
                  with_reducible rfl
                rotate_left
                · simp only [Act.put, List.setIfInBounds_toArray, List.set_cons_zero, List.set_cons_succ, i64_w, i32_w]
                  rfl
                refine pure_ (i := 14) (N := some 79) (v := ?_) (a' := ?_) #[true, true, true, true, true, true, true, true, true, true, true, true, true, true, true] rfl rfl (by kernel_rfl) (fun _ _ _ h => h) (Or.inl ⟨by rfl, ?_⟩) ?_ ?_
                rotate_left
                · intro w'
                  go_simp
                  with_reducible rfl
                rotate_left
                · simp only [Act.put, List.setIfInBounds_toArray, List.set_cons_zero, List.set_cons_succ, i64_w, i32_w]
                  rfl
                refine done_ (by kernel_rfl) ?_
                go_wp2_with fail
                go_ret2
                refine ⟨⟨.slice A6 out.length c6, ?_, ?_⟩, HB5.out⟩
                · rw [HPR.out]; rfl
                · rw [HPR.out]
                  exact Kd.R_mono HR5.out (fun _ _ => trivial)
              · rw [if_neg (fun h => hd h.2.2)] at HPR
                have hlo1 : decide ((4096 : Int) < (out.length : Int)) = false := decide_eq_false (by omega)
                have hlo2 : decide (4096 < out.length) = false := decide_eq_false (by omega)
                have HCb := Aside0.mk (Kd.C_below HC.out HB4.out)
                obtain ⟨sb, hsb⟩ : ∃ sb, strOfNums b = sb := ⟨_, rfl⟩
                have HSb := Aside0.mk hsb
                have hdne : strOfNums (dictBytes out) ≠ sb := fun e => hd (nums_inj (dictBytes_bytes out) HBy.out (by rw [e, hsb]))
                obtain ⟨sD, hsD⟩ : ∃ sD, strOfNums (dictBytes out) = sD := ⟨_, rfl⟩
                have HSD := Aside0.mk hsD
                rw [hsD] at hdne
                have hn1 : (sD.toList == sb.toList) = false := by rw [beq_eq_false_iff_ne]; exact fun h => hdne (by rw [bs_eq, ← ByteArray.toList_eq, ← ByteArray.toList_eq]; exact h)
                have hn2 : (sD.toList != sb.toList) = true := by rw [bne, hn1]; rfl
                generalize dictBytes out = D at HRb HSD
                clear hsb hd hsD hdne
                go_wp2_with fail
                refine start_ (n := 15) (S := fun w' => (convert 43 9 (.slice A n c)).run Try.prog w' = .ok (.string sb) w') (ds := []) #[false, false, false, false, false, false, false, false, false, false, false, false, false, false, false] (by kernel_rfl) rfl rfl ((by rw [← HSb.out]; exact Kd.C_string Try.underlying43 Try.underlying5 Try.underlying9 (c := c) (Kd.C_drew HCb.out))) (fun hHeld => ?_)
                refine pure_ (i := 0) (N := some 65) (v := ?_) (a' := ?_) #[true, false, false, false, false, false, false, false, false, false, false, false, false, false, false] rfl rfl (by kernel_rfl) (fun _ _ _ h => h) (Or.inl ⟨by rfl, ?_⟩) ?_ ?_
                rotate_left
                · intro w'
                  go_simp
                  with_reducible rfl
                rotate_left
                · simp only [Act.put, List.setIfInBounds_toArray, List.set_cons_zero, List.set_cons_succ, i64_w, i32_w]
                  rfl
                refine pure_ (i := 1) (N := some 66) (v := ?_) (a' := ?_) #[true, true, false, false, false, false, false, false, false, false, false, false, false, false, false] rfl rfl (by kernel_rfl) (fun _ _ _ h => h) (Or.inl ⟨by rfl, ?_⟩) ?_ ?_
                rotate_left
                · intro w'
                  go_simp
                  with_reducible rfl
                rotate_left
                · simp only [Act.put, List.setIfInBounds_toArray, List.set_cons_zero, List.set_cons_succ, i64_w, i32_w]
                  rfl
                refine pure_ (i := 2) (N := some 67) (v := ?_) (a' := ?_) #[true, true, true, false, false, false, false, false, false, false, false, false, false, false, false] rfl rfl (by kernel_rfl) (fun _ _ _ h => h) (Or.inl ⟨by rfl, ?_⟩) ?_ ?_
                rotate_left
                · intro w'
                  go_simp
                  with_reducible rfl
                rotate_left
                · simp only [Act.put, List.setIfInBounds_toArray, List.set_cons_zero, List.set_cons_succ, i64_w, i32_w]
                  rfl
                refine pure_ (i := 3) (N := some 68) (v := ?_) (a' := ?_) #[true, true, true, true, false, false, false, false, false, false, false, false, false, false, false] rfl rfl (by kernel_rfl) (fun _ _ _ h => h) (Or.inl ⟨by rfl, ?_⟩) ?_ ?_
                rotate_left
                · intro w'
                  go_simp
                  with_reducible rfl
                rotate_left
                · simp only [Act.put, List.setIfInBounds_toArray, List.set_cons_zero, List.set_cons_succ, i64_w, i32_w]
                  rfl
                refine pure_ (i := 4) (N := some 69) (v := ?_) (a' := ?_) #[true, true, true, true, true, false, false, false, false, false, false, false, false, false, false] rfl rfl (by kernel_rfl) (fun _ _ _ h => h) (Or.inl ⟨by rfl, ?_⟩) ?_ ?_
                rotate_left
                · intro w'
                  go_simp
                  with_reducible rfl
                rotate_left
                · simp only [Act.put, List.setIfInBounds_toArray, List.set_cons_zero, List.set_cons_succ, i64_w, i32_w]
                  rfl
                refine pure_ (i := 5) (N := some 70) (v := ?_) (a' := ?_) #[true, true, true, true, true, true, false, false, false, false, false, false, false, false, false] rfl rfl (by kernel_rfl) (fun _ _ _ h => h) (Or.inl ⟨by rfl, ?_⟩) ?_ ?_
                rotate_left
                · intro w'
                  go_simp
                  with_reducible rfl
                rotate_left
                · simp only [Act.put, List.setIfInBounds_toArray, List.set_cons_zero, List.set_cons_succ, i64_w, i32_w]
                  rfl
                refine pure_ (i := 6) (N := some 71) (v := ?_) (a' := ?_) #[true, true, true, true, true, true, true, false, false, false, false, false, false, false, false] rfl rfl (by kernel_rfl) (fun _ _ _ h => h) (Or.inl ⟨by rfl, ?_⟩) ?_ ?_
                rotate_left
                · intro w'
                  go_simp
                  with_reducible rfl
                rotate_left
                · simp only [Act.put, List.setIfInBounds_toArray, List.set_cons_zero, List.set_cons_succ, i64_w, i32_w]
                  rfl
                refine pure_ (i := 7) (N := some 72) (v := ?_) (a' := ?_) #[true, true, true, true, true, true, true, true, false, false, false, false, false, false, false] rfl rfl (by kernel_rfl) (fun _ _ _ h => h) (Or.inl ⟨by rfl, ?_⟩) ?_ ?_
                rotate_left
                · intro w'
                  go_simp
                  with_reducible rfl
                rotate_left
                · simp only [Act.put, List.setIfInBounds_toArray, List.set_cons_zero, List.set_cons_succ, i64_w, i32_w]
                  rfl
                refine pure_ (i := 8) (N := some 73) (v := ?_) (a' := ?_) #[true, true, true, true, true, true, true, true, true, false, false, false, false, false, false] rfl rfl (by kernel_rfl) (fun _ _ _ h => h) (Or.inl ⟨by rfl, ?_⟩) ?_ ?_
                rotate_left
                · intro w'
                  go_simp
                  with_reducible rfl
                rotate_left
                · simp only [Act.put, List.setIfInBounds_toArray, List.set_cons_zero, List.set_cons_succ, i64_w, i32_w]
                  rfl
                refine pure_ (i := 11) (N := some 76) (v := ?_) (a' := ?_) #[true, true, true, true, true, true, true, true, true, false, false, true, false, false, false] rfl rfl (by kernel_rfl) (fun _ _ _ h => h) (Or.inl ⟨by rfl, ?_⟩) ?_ ?_
                rotate_left
                · intro w'
                  go_simp
                  with_reducible rfl
                rotate_left
                · simp only [Act.put, List.setIfInBounds_toArray, List.set_cons_zero, List.set_cons_succ, i64_w, i32_w]
                  rfl
                refine take_ (i := 12) (N := some 77) (v := ?_) (a' := ?_) #[true, true, true, true, true, true, true, true, true, false, false, true, true, false, false] rfl rfl (by kernel_rfl) (fun _ _ _ h => h) (Or.inl ⟨by rfl, ?_⟩) hHeld ?_ ?_
                rotate_left
                · intro w' s0
                  go_simp
                  with_reducible rfl
                rotate_left
                · simp only [Act.put, List.setIfInBounds_toArray, List.set_cons_zero, List.set_cons_succ, i64_w, i32_w]
                  rfl
                refine one_ (i := 9) (N := some 74) #[true, true, true, true, true, true, true, true, true, true, false, true, true, false, false] rfl rfl (by kernel_rfl) (by decide) (fun K hK => ?_)
                refine goes_ Try.func28 (by kernel_rfl) rfl #[.slice A6 out.length c6] (by rfl) rfl rfl (by simp only [List.map_toArray, List.map_cons, List.map_nil]; rfl) ?_
                with_reducible refine (HRb.out _ (Kd.C_drew HC6.out) hlo).mono ?_
                rintro e w5 ⟨v5, rfl, ho, hb⟩
                refine ⟨_, rfl, ?_⟩
                obtain ⟨A7, c7, rfl, hc7, hC7⟩ := Kd.R_reads ho
                have HC7 := Aside0.mk hC7
                have HB5 := Aside0.mk (below_then (below_drew HB4.out) HB4.out.size hb)
                have HCb5 := Aside0.mk (Kd.C_below (Kd.C_drew HCb.out) hb)
                have HR5 := Aside0.mk (Kd.R_below (Kd.R_drew HR4.out) hb)
                clear ho hb hc7 hC7
                refine hK.out _ _ ((by rw [← HSb.out]; exact Kd.C_string Try.underlying43 Try.underlying5 Try.underlying9 (c := c) HCb5.out)) (fun hHeld => ?_)
                clear hK K
                refine norm_ (a' := ?_) ?_ ?_
                rotate_left
                · show Act.put _ (some 74) _ = _
                  simp only [Act.put, List.setIfInBounds_toArray, List.set_cons_zero, List.set_cons_succ, i64_w, i32_w]
                  rfl
                refine more_ (S' := fun w' => (convert 43 9 (.slice A n c)).run Try.prog w' = .ok (.string sb) w' ∧ (convert 43 9 (.slice A7 D.length c7)).run Try.prog w' = .ok (.string sD) w') (fun _ h => (h.1)) ⟨hHeld, (by rw [← HSD.out]; exact Kd.C_string Try.underlying43 Try.underlying5 Try.underlying9 (c := c7) HC7.out)⟩ (fun hHeld => ?_)
                refine take_ (i := 10) (N := some 75) (v := ?_) (a' := ?_) #[true, true, true, true, true, true, true, true, true, true, true, true, true, false, false] rfl rfl (by kernel_rfl) (fun _ _ _ h => h) (Or.inl ⟨by rfl, ?_⟩) hHeld ?_ ?_
                rotate_left
                · rintro w' ⟨s0, s1⟩
                  go_simp
                  with_reducible rfl
                rotate_left
                · simp only [Act.put, List.setIfInBounds_toArray, List.set_cons_zero, List.set_cons_succ, i64_w, i32_w]
                  rfl
                refine pure_ (i := 13) (N := some 78) (v := ?_) (a' := ?_) #[true, true, true, true, true, true, true, true, true, true, true, true, true, true, false] rfl rfl (by kernel_rfl) (fun _ _ _ h => h) (Or.inl ⟨by rfl, ?_⟩) ?_ ?_
                rotate_left
                · intro w'
                  go_simp
                  with_reducible rfl
                rotate_left
                · simp only [Act.put, List.setIfInBounds_toArray, List.set_cons_zero, List.set_cons_succ, i64_w, i32_w]
                  rfl
                refine pure_ (i := 14) (N := some 79) (v := ?_) (a' := ?_) #[true, true, true, true, true, true, true, true, true, true, true, true, true, true, true] rfl rfl (by kernel_rfl) (fun _ _ _ h => h) (Or.inl ⟨by rfl, ?_⟩) ?_ ?_
                rotate_left
                · intro w'
                  go_simp
                  with_reducible rfl
                rotate_left
                · simp only [Act.put, List.setIfInBounds_toArray, List.set_cons_zero, List.set_cons_succ, i64_w, i32_w]
                  rfl
                refine done_ (by kernel_rfl) ?_
                go_wp2_with fail
                go_ret2
                refine ⟨⟨.slice none 0 0, ?_, ?_⟩, HB5.out⟩
                · rw [HPR.out]; rfl
                · rw [HPR.out]; exact Kd.R_nil _ _ _ _ _
            · rw [if_neg (fun h => hlo h.2.1)] at HPR
              have hlo2 : (4096 : Int) < (out.length : Int) := by omega
              clear HRb HC6 HR4 hlo
              generalize out.length = lo at *
              go_wp2_with fail
              go_quiet (fail)
              go_wp2_with fail
              go_ret2
              refine ⟨⟨.slice none 0 0, ?_, ?_⟩, below_drews2 HB4.out _⟩
              · rw [HPR.out]; rfl
              · rw [HPR.out]; exact Kd.R_nil _ _ _ _ _
        · rw [if_pos he] at HPR
          have hne : (rdEnd s != 0) = true := by rw [bne_iff_ne]; exact he
          clear he
          generalize rdEnd s = er at *
          go_wp2_with fail
          go_ret2
          refine ⟨⟨.slice none 0 0, ?_, ?_⟩, HB4.out⟩
          · rw [HPR.out]; rfl
          · rw [HPR.out]; exact Kd.R_nil _ _ _ _ _
      · have e : m = i := by omega
        subst e
        have HO := Aside0.mk (show outR b = (s, out, f) by
          have := HL.out
          rw [Nat.sub_self, loopR] at this
          exact this.symm)
        clear hlt HL hsl hwl hi2 hi
        generalize bs was = ws at *
        generalize s.2 = s2 at *
        go_wp2_with fail
        refine (RefReader.end_calls w _ gx s HQ.out.rd).mono ?_
        rintro x w4 ⟨rfl, ⟨dn, rfl⟩⟩
        have HB4 := Aside0.mk (below_drewN (RS.below HQ.out.rd) dn)
        have HR4 := Aside0.mk (Kd.R_drewN HQ.out.row dn)
        have HPR := Aside0.mk (show parseR b = if rdEnd s ≠ 0 then (rdEnd s, none) else if f = true ∧ out.length ≤ 4096 ∧ dictBytes out = b then (0, some out) else (12, none) by unfold parseR; rw [HO.out])
        have hl64 : Aside0 (∀ t ∈ out, t.length ≤ 64) := ⟨by
          have := lens_out (rdC 2 (b, 0)).1.toNat 0 (rdC 2 (b, 0)).2 [] [] true (fun t h => absurd h List.not_mem_nil)
          have e : (outR b).2.1 = out := by rw [HO.out]
          rw [← e]; exact this⟩
        generalize wr.drewN dn = w4 at *
        clear HQ HO dn
        by_cases he : rdEnd s = 0
        · rw [if_neg (fun h => h he)] at HPR
          rw [he]
          obtain ⟨A6, c6, e6, hc6, hC6⟩ := Kd.R_reads HR4.out
          have HC6 := Aside0.mk hC6
          subst e6
          have HRb := Aside0.mk (fun w (h : text.C w A6 out.length out) (hm : out.length ≤ 4096) => refbytes_calls out A6 out.length c6 w h hm hl64.out)
          clear hC6 hc6 he hol
          cases f with
          | false =>
            rw [if_neg (fun h => by cases h.1)] at HPR
            clear HRb HC6 HR4
            generalize out.length = lo at *
            go_wp2_with fail
            go_quiet (fail)
            go_wp2_with fail
            go_ret2
            refine ⟨⟨.slice none 0 0, ?_, ?_⟩, below_drews2 HB4.out _⟩
            · rw [HPR.out]; rfl
            · rw [HPR.out]; exact Kd.R_nil _ _ _ _ _
          | true =>
            by_cases hlo : out.length ≤ 4096
            · by_cases hd : dictBytes out = b
              · rw [if_pos ⟨rfl, hlo, hd⟩] at HPR
                have hlo1 : decide ((4096 : Int) < (out.length : Int)) = false := decide_eq_false (by omega)
                have hlo2 : decide (4096 < out.length) = false := decide_eq_false (by omega)
                have HCb := Aside0.mk (Kd.C_below HC.out HB4.out)
                obtain ⟨sb, hsb⟩ : ∃ sb, strOfNums b = sb := ⟨_, rfl⟩
                have HSb := Aside0.mk hsb
                have HSD : Aside0 (strOfNums (dictBytes out) = sb) := ⟨by rw [hd, hsb]⟩
                generalize dictBytes out = D at HRb HSD
                clear hsb hd
                go_wp2_with fail
                refine start_ (n := 15) (S := fun w' => (convert 43 9 (.slice A n c)).run Try.prog w' = .ok (.string sb) w') (ds := []) #[false, false, false, false, false, false, false, false, false, false, false, false, false, false, false] (by kernel_rfl) rfl rfl ((by rw [← HSb.out]; exact Kd.C_string Try.underlying43 Try.underlying5 Try.underlying9 (c := c) (Kd.C_drew HCb.out))) (fun hHeld => ?_)
                refine pure_ (i := 0) (N := some 65) (v := ?_) (a' := ?_) #[true, false, false, false, false, false, false, false, false, false, false, false, false, false, false] rfl rfl (by kernel_rfl) (fun _ _ _ h => h) (Or.inl ⟨by rfl, ?_⟩) ?_ ?_
                rotate_left
                · intro w'
                  go_simp
                  with_reducible rfl
                rotate_left
                · simp only [Act.put, List.setIfInBounds_toArray, List.set_cons_zero, List.set_cons_succ, i64_w, i32_w]
                  rfl
                refine pure_ (i := 1) (N := some 66) (v := ?_) (a' := ?_) #[true, true, false, false, false, false, false, false, false, false, false, false, false, false, false] rfl rfl (by kernel_rfl) (fun _ _ _ h => h) (Or.inl ⟨by rfl, ?_⟩) ?_ ?_
                rotate_left
                · intro w'
                  go_simp
                  with_reducible rfl
                rotate_left
                · simp only [Act.put, List.setIfInBounds_toArray, List.set_cons_zero, List.set_cons_succ, i64_w, i32_w]
                  rfl
                refine pure_ (i := 2) (N := some 67) (v := ?_) (a' := ?_) #[true, true, true, false, false, false, false, false, false, false, false, false, false, false, false] rfl rfl (by kernel_rfl) (fun _ _ _ h => h) (Or.inl ⟨by rfl, ?_⟩) ?_ ?_
                rotate_left
                · intro w'
                  go_simp
                  with_reducible rfl
                rotate_left
                · simp only [Act.put, List.setIfInBounds_toArray, List.set_cons_zero, List.set_cons_succ, i64_w, i32_w]
                  rfl
                refine pure_ (i := 3) (N := some 68) (v := ?_) (a' := ?_) #[true, true, true, true, false, false, false, false, false, false, false, false, false, false, false] rfl rfl (by kernel_rfl) (fun _ _ _ h => h) (Or.inl ⟨by rfl, ?_⟩) ?_ ?_
                rotate_left
                · intro w'
                  go_simp
                  with_reducible rfl
                rotate_left
                · simp only [Act.put, List.setIfInBounds_toArray, List.set_cons_zero, List.set_cons_succ, i64_w, i32_w]
                  rfl
                refine pure_ (i := 4) (N := some 69) (v := ?_) (a' := ?_) #[true, true, true, true, true, false, false, false, false, false, false, false, false, false, false] rfl rfl (by kernel_rfl) (fun _ _ _ h => h) (Or.inl ⟨by rfl, ?_⟩) ?_ ?_
                rotate_left
                · intro w'
                  go_simp
                  with_reducible rfl
                rotate_left
                · simp only [Act.put, List.setIfInBounds_toArray, List.set_cons_zero, List.set_cons_succ, i64_w, i32_w]
                  rfl
                refine pure_ (i := 5) (N := some 70) (v := ?_) (a' := ?_) #[true, true, true, true, true, true, false, false, false, false, false, false, false, false, false] rfl rfl (by kernel_rfl) (fun _ _ _ h => h) (Or.inl ⟨by rfl, ?_⟩) ?_ ?_
                rotate_left
                · intro w'
                  go_simp
                  with_reducible rfl
                rotate_left
                · simp only [Act.put, List.setIfInBounds_toArray, List.set_cons_zero, List.set_cons_succ, i64_w, i32_w]
                  rfl
                refine pure_ (i := 6) (N := some 71) (v := ?_) (a' := ?_) #[true, true, true, true, true, true, true, false, false, false, false, false, false, false, false] rfl rfl (by kernel_rfl) (fun _ _ _ h => h) (Or.inl ⟨by rfl, ?_⟩) ?_ ?_
                rotate_left
                · intro w'
                  go_simp
                  with_reducible rfl
                rotate_left
                · simp only [Act.put, List.setIfInBounds_toArray, List.set_cons_zero, List.set_cons_succ, i64_w, i32_w]
                  rfl
                refine pure_ (i := 7) (N := some 72) (v := ?_) (a' := ?_) #[true, true, true, true, true, true, true, true, false, false, false, false, false, false, false] rfl rfl (by kernel_rfl) (fun _ _ _ h => h) (Or.inl ⟨by rfl, ?_⟩) ?_ ?_
                rotate_left
                · intro w'
                  go_simp
                  with_reducible rfl
                rotate_left
                · simp only [Act.put, List.setIfInBounds_toArray, List.set_cons_zero, List.set_cons_succ, i64_w, i32_w]
                  rfl
                refine pure_ (i := 8) (N := some 73) (v := ?_) (a' := ?_) #[true, true, true, true, true, true, true, true, true, false, false, false, false, false, false] rfl rfl (by kernel_rfl) (fun _ _ _ h => h) (Or.inl ⟨by rfl, ?_⟩) ?_ ?_
                rotate_left
                · intro w'
                  go_simp
                  with_reducible rfl
                rotate_left
                · simp only [Act.put, List.setIfInBounds_toArray, List.set_cons_zero, List.set_cons_succ, i64_w, i32_w]
                  rfl
                refine pure_ (i := 11) (N := some 76) (v := ?_) (a' := ?_) #[true, true, true, true, true, true, true, true, true, false, false, true, false, false, false] rfl rfl (by kernel_rfl) (fun _ _ _ h => h) (Or.inl ⟨by rfl, ?_⟩) ?_ ?_
                rotate_left
                · intro w'
                  go_simp
                  with_reducible rfl
                rotate_left
                · simp only [Act.put, List.setIfInBounds_toArray, List.set_cons_zero, List.set_cons_succ, i64_w, i32_w]
                  rfl
                refine take_ (i := 12) (N := some 77) (v := ?_) (a' := ?_) #[true, true, true, true, true, true, true, true, true, false, false, true, true, false, false] rfl rfl (by kernel_rfl) (fun _ _ _ h => h) (Or.inl ⟨by rfl, ?_⟩) hHeld ?_ ?_
                rotate_left
                · intro w' s0
                  go_simp
                  with_reducible rfl
                rotate_left
                · simp only [Act.put, List.setIfInBounds_toArray, List.set_cons_zero, List.set_cons_succ, i64_w, i32_w]
                  rfl
                refine one_ (i := 9) (N := some 74) #[true, true, true, true, true, true, true, true, true, true, false, true, true, false, false] rfl rfl (by kernel_rfl) (by decide) (fun K hK => ?_)
                refine goes_ Try.func28 (by kernel_rfl) rfl #[.slice A6 out.length c6] (by rfl) rfl rfl (by simp only [List.map_toArray, List.map_cons, List.map_nil]; rfl) ?_
                with_reducible refine (HRb.out _ (Kd.C_drew HC6.out) hlo).mono ?_
                rintro e w5 ⟨v5, rfl, ho, hb⟩
                refine ⟨_, rfl, ?_⟩
                obtain ⟨A7, c7, rfl, hc7, hC7⟩ := Kd.R_reads ho
                have HC7 := Aside0.mk hC7
                have HB5 := Aside0.mk (below_then (below_drew HB4.out) HB4.out.size hb)
                have HCb5 := Aside0.mk (Kd.C_below (Kd.C_drew HCb.out) hb)
                have HR5 := Aside0.mk (Kd.R_below (Kd.R_drew HR4.out) hb)
                clear ho hb hc7 hC7
                refine hK.out _ _ ((by rw [← HSb.out]; exact Kd.C_string Try.underlying43 Try.underlying5 Try.underlying9 (c := c) HCb5.out)) (fun hHeld => ?_)
                clear hK K
                refine norm_ (a' := ?_) ?_ ?_
                rotate_left
                · show Act.put _ (some 74) _ = _
                  simp only [Act.put, List.setIfInBounds_toArray, List.set_cons_zero, List.set_cons_succ, i64_w, i32_w]
                  rfl
                refine more_ (S' := fun w' => (convert 43 9 (.slice A n c)).run Try.prog w' = .ok (.string sb) w' ∧ (convert 43 9 (.slice A7 D.length c7)).run Try.prog w' = .ok (.string sb) w') (fun _ h => (h.1)) ⟨hHeld, (by rw [← HSD.out]; exact Kd.C_string Try.underlying43 Try.underlying5 Try.underlying9 (c := c7) HC7.out)⟩ (fun hHeld => ?_)
                refine take_ (i := 10) (N := some 75) (v := ?_) (a' := ?_) #[true, true, true, true, true, true, true, true, true, true, true, true, true, false, false] rfl rfl (by kernel_rfl) (fun _ _ _ h => h) (Or.inl ⟨by rfl, ?_⟩) hHeld ?_ ?_
                rotate_left
                · rintro w' ⟨s0, s1⟩
                  go_simp
                  with_reducible rfl
                rotate_left
                · simp only [Act.put, List.setIfInBounds_toArray, List.set_cons_zero, List.set_cons_succ, i64_w, i32_w]
                  rfl
                refine pure_ (i := 13) (N := some 78) (v := ?_) (a' := ?_) #[true, true, true, true, true, true, true, true, true, true, true, true, true, true, false] rfl rfl (by kernel_rfl) (fun _ _ _ h => h) (Or.inl ⟨by rfl, ?_⟩) ?_ ?_
                rotate_left
                · intro w'
                  go_simp
                  with_reducible rfl
                rotate_left
                · simp only [Act.put, List.setIfInBounds_toArray, List.set_cons_zero, List.set_cons_succ, i64_w, i32_w]
                  rfl
                refine pure_ (i := 14) (N := some 79) (v := ?_) (a' := ?_) #[true, true, true, true, true, true, true, true, true, true, true, true, true, true, true] rfl rfl (by kernel_rfl) (fun _ _ _ h => h) (Or.inl ⟨by rfl, ?_⟩) ?_ ?_
                rotate_left
                · intro w'
                  go_simp
                  with_reducible rfl
                rotate_left
                · simp only [Act.put, List.setIfInBounds_toArray, List.set_cons_zero, List.set_cons_succ, i64_w, i32_w]
                  rfl
                refine done_ (by kernel_rfl) ?_
                go_wp2_with fail
                go_ret2
                refine ⟨⟨.slice A6 out.length c6, ?_, ?_⟩, HB5.out⟩
                · rw [HPR.out]; rfl
                · rw [HPR.out]
                  exact Kd.R_mono HR5.out (fun _ _ => trivial)
              · rw [if_neg (fun h => hd h.2.2)] at HPR
                have hlo1 : decide ((4096 : Int) < (out.length : Int)) = false := decide_eq_false (by omega)
                have hlo2 : decide (4096 < out.length) = false := decide_eq_false (by omega)
                have HCb := Aside0.mk (Kd.C_below HC.out HB4.out)
                obtain ⟨sb, hsb⟩ : ∃ sb, strOfNums b = sb := ⟨_, rfl⟩
                have HSb := Aside0.mk hsb
                have hdne : strOfNums (dictBytes out) ≠ sb := fun e => hd (nums_inj (dictBytes_bytes out) HBy.out (by rw [e, hsb]))
                obtain ⟨sD, hsD⟩ : ∃ sD, strOfNums (dictBytes out) = sD := ⟨_, rfl⟩
                have HSD := Aside0.mk hsD
                rw [hsD] at hdne
                have hn1 : (sD.toList == sb.toList) = false := by rw [beq_eq_false_iff_ne]; exact fun h => hdne (by rw [bs_eq, ← ByteArray.toList_eq, ← ByteArray.toList_eq]; exact h)
                have hn2 : (sD.toList != sb.toList) = true := by rw [bne, hn1]; rfl
                generalize dictBytes out = D at HRb HSD
                clear hsb hd hsD hdne
                go_wp2_with fail
                refine start_ (n := 15) (S := fun w' => (convert 43 9 (.slice A n c)).run Try.prog w' = .ok (.string sb) w') (ds := []) #[false, false, false, false, false, false, false, false, false, false, false, false, false, false, false] (by kernel_rfl) rfl rfl ((by rw [← HSb.out]; exact Kd.C_string Try.underlying43 Try.underlying5 Try.underlying9 (c := c) (Kd.C_drew HCb.out))) (fun hHeld => ?_)
                refine pure_ (i := 0) (N := some 65) (v := ?_) (a' := ?_) #[true, false, false, false, false, false, false, false, false, false, false, false, false, false, false] rfl rfl (by kernel_rfl) (fun _ _ _ h => h) (Or.inl ⟨by rfl, ?_⟩) ?_ ?_
                rotate_left
                · intro w'
                  go_simp
                  with_reducible rfl
                rotate_left
                · simp only [Act.put, List.setIfInBounds_toArray, List.set_cons_zero, List.set_cons_succ, i64_w, i32_w]
                  rfl
                refine pure_ (i := 1) (N := some 66) (v := ?_) (a' := ?_) #[true, true, false, false, false, false, false, false, false, false, false, false, false, false, false] rfl rfl (by kernel_rfl) (fun _ _ _ h => h) (Or.inl ⟨by rfl, ?_⟩) ?_ ?_
                rotate_left
                · intro w'
                  go_simp
                  with_reducible rfl
                rotate_left
                · simp only [Act.put, List.setIfInBounds_toArray, List.set_cons_zero, List.set_cons_succ, i64_w, i32_w]
                  rfl
                refine pure_ (i := 2) (N := some 67) (v := ?_) (a' := ?_) #[true, true, true, false, false, false, false, false, false, false, false, false, false, false, false] rfl rfl (by kernel_rfl) (fun _ _ _ h => h) (Or.inl ⟨by rfl, ?_⟩) ?_ ?_
                rotate_left
                · intro w'
                  go_simp
                  with_reducible rfl
                rotate_left
                · simp only [Act.put, List.setIfInBounds_toArray, List.set_cons_zero, List.set_cons_succ, i64_w, i32_w]
                  rfl
                refine pure_ (i := 3) (N := some 68) (v := ?_) (a' := ?_) #[true, true, true, true, false, false, false, false, false, false, false, false, false, false, false] rfl rfl (by kernel_rfl) (fun _ _ _ h => h) (Or.inl ⟨by rfl, ?_⟩) ?_ ?_
                rotate_left
                · intro w'
                  go_simp
                  with_reducible rfl
                rotate_left
                · simp only [Act.put, List.setIfInBounds_toArray, List.set_cons_zero, List.set_cons_succ, i64_w, i32_w]
                  rfl
                refine pure_ (i := 4) (N := some 69) (v := ?_) (a' := ?_) #[true, true, true, true, true, false, false, false, false, false, false, false, false, false, false] rfl rfl (by kernel_rfl) (fun _ _ _ h => h) (Or.inl ⟨by rfl, ?_⟩) ?_ ?_
                rotate_left
                · intro w'
                  go_simp
                  with_reducible rfl
                rotate_left
                · simp only [Act.put, List.setIfInBounds_toArray, List.set_cons_zero, List.set_cons_succ, i64_w, i32_w]
                  rfl
                refine pure_ (i := 5) (N := some 70) (v := ?_) (a' := ?_) #[true, true, true, true, true, true, false, false, false, false, false, false, false, false, false] rfl rfl (by kernel_rfl) (fun _ _ _ h => h) (Or.inl ⟨by rfl, ?_⟩) ?_ ?_
                rotate_left
                · intro w'
                  go_simp
                  with_reducible rfl
                rotate_left
                · simp only [Act.put, List.setIfInBounds_toArray, List.set_cons_zero, List.set_cons_succ, i64_w, i32_w]
                  rfl
                refine pure_ (i := 6) (N := some 71) (v := ?_) (a' := ?_) #[true, true, true, true, true, true, true, false, false, false, false, false, false, false, false] rfl rfl (by kernel_rfl) (fun _ _ _ h => h) (Or.inl ⟨by rfl, ?_⟩) ?_ ?_
                rotate_left
                · intro w'
                  go_simp
                  with_reducible rfl
                rotate_left
                · simp only [Act.put, List.setIfInBounds_toArray, List.set_cons_zero, List.set_cons_succ, i64_w, i32_w]
                  rfl
                refine pure_ (i := 7) (N := some 72) (v := ?_) (a' := ?_) #[true, true, true, true, true, true, true, true, false, false, false, false, false, false, false] rfl rfl (by kernel_rfl) (fun _ _ _ h => h) (Or.inl ⟨by rfl, ?_⟩) ?_ ?_
                rotate_left
                · intro w'
                  go_simp
                  with_reducible rfl
                rotate_left
                · simp only [Act.put, List.setIfInBounds_toArray, List.set_cons_zero, List.set_cons_succ, i64_w, i32_w]
                  rfl
                refine pure_ (i := 8) (N := some 73) (v := ?_) (a' := ?_) #[true, true, true, true, true, true, true, true, true, false, false, false, false, false, false] rfl rfl (by kernel_rfl) (fun _ _ _ h => h) (Or.inl ⟨by rfl, ?_⟩) ?_ ?_
                rotate_left
                · intro w'
                  go_simp
                  with_reducible rfl
                rotate_left
                · simp only [Act.put, List.setIfInBounds_toArray, List.set_cons_zero, List.set_cons_succ, i64_w, i32_w]
                  rfl
                refine pure_ (i := 11) (N := some 76) (v := ?_) (a' := ?_) #[true, true, true, true, true, true, true, true, true, false, false, true, false, false, false] rfl rfl (by kernel_rfl) (fun _ _ _ h => h) (Or.inl ⟨by rfl, ?_⟩) ?_ ?_
                rotate_left
                · intro w'
                  go_simp
                  with_reducible rfl
                rotate_left
                · simp only [Act.put, List.setIfInBounds_toArray, List.set_cons_zero, List.set_cons_succ, i64_w, i32_w]
                  rfl
                refine take_ (i := 12) (N := some 77) (v := ?_) (a' := ?_) #[true, true, true, true, true, true, true, true, true, false, false, true, true, false, false] rfl rfl (by kernel_rfl) (fun _ _ _ h => h) (Or.inl ⟨by rfl, ?_⟩) hHeld ?_ ?_
                rotate_left
                · intro w' s0
                  go_simp
                  with_reducible rfl
                rotate_left
                · simp only [Act.put, List.setIfInBounds_toArray, List.set_cons_zero, List.set_cons_succ, i64_w, i32_w]
                  rfl
                refine one_ (i := 9) (N := some 74) #[true, true, true, true, true, true, true, true, true, true, false, true, true, false, false] rfl rfl (by kernel_rfl) (by decide) (fun K hK => ?_)
                refine goes_ Try.func28 (by kernel_rfl) rfl #[.slice A6 out.length c6] (by rfl) rfl rfl (by simp only [List.map_toArray, List.map_cons, List.map_nil]; rfl) ?_
                with_reducible refine (HRb.out _ (Kd.C_drew HC6.out) hlo).mono ?_
                rintro e w5 ⟨v5, rfl, ho, hb⟩
                refine ⟨_, rfl, ?_⟩
                obtain ⟨A7, c7, rfl, hc7, hC7⟩ := Kd.R_reads ho
                have HC7 := Aside0.mk hC7
                have HB5 := Aside0.mk (below_then (below_drew HB4.out) HB4.out.size hb)
                have HCb5 := Aside0.mk (Kd.C_below (Kd.C_drew HCb.out) hb)
                have HR5 := Aside0.mk (Kd.R_below (Kd.R_drew HR4.out) hb)
                clear ho hb hc7 hC7
                refine hK.out _ _ ((by rw [← HSb.out]; exact Kd.C_string Try.underlying43 Try.underlying5 Try.underlying9 (c := c) HCb5.out)) (fun hHeld => ?_)
                clear hK K
                refine norm_ (a' := ?_) ?_ ?_
                rotate_left
                · show Act.put _ (some 74) _ = _
                  simp only [Act.put, List.setIfInBounds_toArray, List.set_cons_zero, List.set_cons_succ, i64_w, i32_w]
                  rfl
                refine more_ (S' := fun w' => (convert 43 9 (.slice A n c)).run Try.prog w' = .ok (.string sb) w' ∧ (convert 43 9 (.slice A7 D.length c7)).run Try.prog w' = .ok (.string sD) w') (fun _ h => (h.1)) ⟨hHeld, (by rw [← HSD.out]; exact Kd.C_string Try.underlying43 Try.underlying5 Try.underlying9 (c := c7) HC7.out)⟩ (fun hHeld => ?_)
                refine take_ (i := 10) (N := some 75) (v := ?_) (a' := ?_) #[true, true, true, true, true, true, true, true, true, true, true, true, true, false, false] rfl rfl (by kernel_rfl) (fun _ _ _ h => h) (Or.inl ⟨by rfl, ?_⟩) hHeld ?_ ?_
                rotate_left
                · rintro w' ⟨s0, s1⟩
                  go_simp
                  with_reducible rfl
                rotate_left
                · simp only [Act.put, List.setIfInBounds_toArray, List.set_cons_zero, List.set_cons_succ, i64_w, i32_w]
                  rfl
                refine pure_ (i := 13) (N := some 78) (v := ?_) (a' := ?_) #[true, true, true, true, true, true, true, true, true, true, true, true, true, true, false] rfl rfl (by kernel_rfl) (fun _ _ _ h => h) (Or.inl ⟨by rfl, ?_⟩) ?_ ?_
                rotate_left
                · intro w'
                  go_simp
                  with_reducible rfl
                rotate_left
                · simp only [Act.put, List.setIfInBounds_toArray, List.set_cons_zero, List.set_cons_succ, i64_w, i32_w]
                  rfl
                refine pure_ (i := 14) (N := some 79) (v := ?_) (a' := ?_) #[true, true, true, true, true, true, true, true, true, true, true, true, true, true, true] rfl rfl (by kernel_rfl) (fun _ _ _ h => h) (Or.inl ⟨by rfl, ?_⟩) ?_ ?_
                rotate_left
                · intro w'
                  go_simp
                  with_reducible rfl
                rotate_left
                · simp only [Act.put, List.setIfInBounds_toArray, List.set_cons_zero, List.set_cons_succ, i64_w, i32_w]
                  rfl
                refine done_ (by kernel_rfl) ?_
                go_wp2_with fail
                go_ret2
                refine ⟨⟨.slice none 0 0, ?_, ?_⟩, HB5.out⟩
                · rw [HPR.out]; rfl
                · rw [HPR.out]; exact Kd.R_nil _ _ _ _ _
            · rw [if_neg (fun h => hlo h.2.1)] at HPR
              have hlo2 : (4096 : Int) < (out.length : Int) := by omega
              clear HRb HC6 HR4 hlo
              generalize out.length = lo at *
              go_wp2_with fail
              go_quiet (fail)
              go_wp2_with fail
              go_ret2
              refine ⟨⟨.slice none 0 0, ?_, ?_⟩, below_drews2 HB4.out _⟩
              · rw [HPR.out]; rfl
              · rw [HPR.out]; exact Kd.R_nil _ _ _ _ _
        · rw [if_pos he] at HPR
          have hne : (rdEnd s != 0) = true := by rw [bne_iff_ne]; exact he
          clear he
          generalize rdEnd s = er at *
          go_wp2_with fail
          go_ret2
          refine ⟨⟨.slice none 0 0, ?_, ?_⟩, HB4.out⟩
          · rw [HPR.out]; rfl
          · rw [HPR.out]; exact Kd.R_nil _ _ _ _ _
end Go.Proofs.Ytomgfhapmhagnaa.Txt
