/- Texts of this repo, joined, without what this claim does not use: DkCut, DkDone, DkOps3, DkOps4, DkOps5, DkOps6, DkOps7, DkOps8, BkNoteP, BkNote0, BkNotea, BkNoteb, BkNote3, BkNote4. -/
import Derived.Test.YtabomfmjepmkjaaDDiskKeeps1
section
namespace Go.Proofs.Ytabomfmjepmkjaa.Dk
set_option linter.unusedVariables false
set_option linter.unusedSimpArgs false
open Go.RowKit Go.Proofs.YtabomfmjepmkjaaW.PrintWords Go.Proofs.YtabomfmjepmkjaaW.PrintLast Go.Proofs.YtabomfmjepmkjaaW.PrintMore Go.Proofs.Ytabomfmjepmkjaa.Lib Go.Proofs.Ytabomfmjepmkjaa.Mem Go.Proofs.Ytabomfmjepmkjaa.Txt
open Go.MapKept Go.ChangeMaps
attribute [local go_sem] max_two min_two
section
variable {P : Program} {ops : Array Oper} {o : Oper} {a : Act} {Q : Exit → Act → World → Prop}
theorem next_event {rest : List Oper} {W : World} (hgd : o.guard = none) {it : Operand} (hop : o.op = .next it false) {r bm since c0 clock : Nat} {seen : Array Nat} {es : Array MapEntry} (hv : a.eval it = .pointer (some ⟨r, 0, none⟩))
    (hr : W.heap[r]? = some (.mapIter (some bm) since seen c0)) (hb : W.heap[bm]? = some (.map es clock)) (hold : ∀ x ∈ es.toList, x.born < since) (hsc : since ≤ c0)
    (h0 : (∀ x ∈ es.toList, seen.contains x.born = true) → wpList P ops Q rest (a.put o.dst (.tuple #[.bool false])) W)
    (h1 : ∀ e ∈ es.toList, seen.contains e.born = false → ∀ w1, (w1 = W ∨ w1 = W.drew) → wpList P ops Q rest (a.put o.dst (.tuple #[.bool true, e.key, e.val])) (setBlock w1 r (.mapIter (some bm) since (seen.push e.born) clock))) :
    wpList P ops Q (o :: rest) a W := by
  rcases run_next_at (P := P) W o.type r bm since c0 seen es clock hr hb hold hsc with ⟨hz, hrun⟩ | ⟨e, he, w1, hw, hrun⟩
  · refine Kd.event_run hgd (v := .tuple #[.bool false]) (w1 := W) (by simp [execOp, hop, hv, hrun, Result.andThen]) (h0 (fun x hx => ?_))
    have hl : (leftOf es seen) = #[] := Array.eq_empty_of_size_eq_zero hz
    by_cases hc : seen.contains x.born = true
    · exact hc
    · exact absurd (show x ∈ (leftOf es seen) by unfold leftOf; rw [Array.mem_filter]; exact ⟨by simpa using hx, by simpa using hc⟩) (by rw [hl]; simp)
  · have he2 : e ∈ es.toList ∧ seen.contains e.born = false := by
      unfold leftOf at he
      rw [Array.mem_toList_iff, Array.mem_filter] at he
      exact ⟨by simpa using he.1, by simpa using he.2⟩
    exact Kd.event_run hgd (v := .tuple #[.bool true, e.key, e.val]) (w1 := setBlock w1 r (.mapIter (some bm) since (seen.push e.born) clock)) (by simp [execOp, hop, hv, hrun, Result.andThen]) (h1 e he2.1 he2.2 w1 hw)
end
theorem run_range {P : Program} {w : World} {mt kt et : TypeId} {r clock : Nat} {es : Array MapEntry} (hm : P.underlying mt = some (.map kt et)) (hb : w.heap[r]? = some (.map es clock)) :
    (Instr.range mt (.map (some r))).run P w = .ok (.pointer (some ⟨w.heap.size, 0, none⟩)) (w.alloc (.mapIter (some r) clock #[] clock)) := by
  simp [Instr.range, run_underlying hm, MapKept.run_getObj_map hb, Result.andThen]
def cutN (part : Int) (v : Fv) : Nat := (cut1 part v).2
def cutM (part : Int) (m : FM) : FM := { m with c := cutN part (m.bytes, m.syn), bytes := m.bytes.take (cutN part (m.bytes, m.syn)), syn := cutN part (m.bytes, m.syn) }
def cutIf (seen : Array Nat) (part : Int) (m : FM) : FM := if seen.contains m.born = true then cutM part m else m
theorem cutIf_born (seen : Array Nat) (part : Int) (m : FM) : (cutIf seen part m).born = m.born := by unfold cutIf; split <;> rfl
theorem cutIf_empty (part : Int) (ms : List FM) : ms.map (cutIf #[] part) = ms := by
  have : ∀ m ∈ ms, cutIf #[] part m = m := fun m _ => by unfold cutIf; rw [if_neg (by simp)]
  rw [List.map_congr_left this, List.map_id']
theorem cutIf_all {seen : Array Nat} {ms : List FM} (part : Int) (h : ∀ m ∈ ms, seen.contains m.born = true) : ms.map (cutIf seen part) = ms.map (cutM part) := List.map_congr_left fun m hm => by unfold cutIf; rw [if_pos (h m hm)]
theorem cutIf_push {seen : Array Nat} {ms : List FM} {part : Int} (hap : ms.Pairwise Apart) {i : Nat} {m : FM} (hi : ms[i]? = some m) : ms.map (cutIf (seen.push m.born) part) = (ms.map (cutIf seen part)).set i (cutM part m) := by
  obtain ⟨hil, hie⟩ := List.getElem?_eq_some_iff.1 hi
  apply List.ext_getElem
  · rw [List.length_set, List.length_map, List.length_map]
  · intro j h1 h2
    rw [List.length_map] at h1
    rw [List.getElem_map, List.getElem_set, List.getElem_map]
    by_cases e : i = j
    · subst e
      rw [if_pos rfl, hie]
      unfold cutIf
      rw [if_pos (by simp)]
    · rw [if_neg e]
      have hne : ms[j].born ≠ m.born := by
        rw [← hie]
        rcases Nat.lt_or_gt_of_ne e with hlt | hlt
        · exact (List.pairwise_iff_getElem.1 hap i j hil h1 hlt).2.1.symm
        · exact (List.pairwise_iff_getElem.1 hap j i h1 hil hlt).2.1
      unfold cutIf
      have : (seen.push m.born).contains ms[j].born = seen.contains ms[j].born := by
        rw [Array.contains_push]
        simp [hne]
      rw [this]
theorem cutN_le (part : Int) (v : Fv) (h : v.2 ≤ v.1.length) : v.2 ≤ cutN part v ∧ cutN part v ≤ v.1.length := by
  unfold cutN cut1
  simp only
  omega
theorem FAt.cut {w w' : World} {ok : Nat → Prop} {m : FM} (h : FAt w ok m) (part : Int) (hb : w'.heap[m.q]? = some (.cells #[.slice m.A (cutN part (m.bytes, m.syn)) (cutN part (m.bytes, m.syn)), .int .i64 (cutN part (m.bytes, m.syn))] 68 (0, 0))) (hA : ∀ a, m.A = some a → w'.heap[a.block]? = w.heap[a.block]?) : FAt w' ok (cutM part m) := by
  have hle := (cutN_le part (m.bytes, m.syn) h.syn).2
  have hl : (m.bytes.take (cutN part (m.bytes, m.syn))).length = cutN part (m.bytes, m.syn) := by rw [List.length_take]; simp only at hle; omega
  refine ⟨h.okq, ?_, ?_, ?_⟩
  · show w'.heap[m.q]? = some (.cells #[.slice m.A (m.bytes.take (cutN part (m.bytes, m.syn))).length (cutN part (m.bytes, m.syn)), .int .i64 (cutN part (m.bytes, m.syn))] _ _)
    rw [hl]; exact hb
  · show OwnB w' ok m.A (m.bytes.take (cutN part (m.bytes, m.syn))).length (cutN part (m.bytes, m.syn)) (m.bytes.take (cutN part (m.bytes, m.syn)))
    rw [hl]; exact (h.row.cutTo _ hle).move hA
  · show cutN part (m.bytes, m.syn) ≤ (m.bytes.take (cutN part (m.bytes, m.syn))).length
    rw [hl]; exact Nat.le_refl _
theorem DkMs.cut_at {w w' : World} {ok : Nat → Prop} {p mb clock : Nat} {s : DS} {ms : List FM} {m : FM} (h : DkMs w ok p s mb clock ms) {i : Nat} (hi : ms[i]? = some m) (part : Int) (ho : Only (fun k => k = m.q) w w') (hsz : w'.heap.size = w.heap.size)
    (hb : w'.heap[m.q]? = some (.cells #[.slice m.A (cutN part (m.bytes, m.syn)) (cutN part (m.bytes, m.syn)), .int .i64 (cutN part (m.bytes, m.syn))] 68 (0, 0))) :
    DkMs w' ok p { s with fs := s.fs.set i (cutM part m).abs } mb clock (ms.set i (cutM part m)) := by
  have hm : m ∈ ms := List.mem_of_getElem? hi
  have hf := h.files m hm
  have := h.at_file (m' := cutM part m) hi (ho.mono (fun _ e => .inl e)) ((hf.cut part hb (fun a ha => ho.block _ (hf.ltA a ha).1 (Ne.symm (h.q_A hm hm a ha)))).step rfl (fun _ _ => rfl) (fun _ hk => .inl hk)) rfl rfl rfl (fun a ha => .inl rfl)
  exact this.mono (fun k hk => hk.elim id (fun hk => by omega))
def leftN (w : World) (mb it : Nat) : Nat :=
  match w.heap[it]?, w.heap[mb]? with
  | some (.mapIter _ _ seen _), some (.map es _) => (es.toList.filter fun e => !seen.contains e.born).length
  | _, _ => 0
theorem leftN_is {w : World} {mb it since c0 clock : Nat} {seen : Array Nat} {es : Array MapEntry} {m : Option Nat} (h1 : w.heap[it]? = some (.mapIter m since seen c0)) (h2 : w.heap[mb]? = some (.map es clock)) : leftN w mb it = (es.toList.filter fun e => !seen.contains e.born).length := by unfold leftN; rw [h1, h2]
theorem filter_less {es : List MapEntry} {seen : Array Nat} {e : MapEntry} (he : e ∈ es) (hs : seen.contains e.born = false) : (es.filter fun x => !(seen.push e.born).contains x.born).length < (es.filter fun x => !seen.contains x.born).length := by
  have hsub : (es.filter fun x => !(seen.push e.born).contains x.born) = (es.filter fun x => !seen.contains x.born).filter fun x => !(x.born == e.born) := by
    rw [List.filter_filter]
    congr 1
    funext x
    rw [Array.contains_push, Bool.not_or, Bool.and_comm]
  rw [hsub]
  refine List.length_filter_lt_length_iff_exists.2 ⟨e, List.mem_filter.2 ⟨he, by rw [hs]; rfl⟩, by simp⟩
inductive RelCut (w0 : World) (ok : Nat → Prop) (p : Nat) (s : DS) (part : Int) (mb cl it : Nat) (ms : List FM) (w' : World) : Prop
  | mk (seen : Array Nat) (fs : Fs) (hms : DkMs w' ok p { s with fs := fs } mb cl (ms.map (cutIf seen part))) (hit : w'.heap[it]? = some (.mapIter (some mb) cl seen cl)) (ho : Only ok w0 w') (hn : w0.heap.size ≤ it)
section
variable {ops : Array Oper} {o : Oper} {a : Act} {Q : Exit → Act → World → Prop}
theorem next_cut {rest : List Oper} {W w0 : World} (hgd : o.guard = none) {itx : Operand} (hop : o.op = .next itx false) {ok : Nat → Prop} {p mb cl it : Nat} {s : DS} {part : Int} {ms : List FM} {seen : Array Nat} (hv : a.eval itx = .pointer (some ⟨it, 0, none⟩))
    (hM : DkMs W ok p s mb cl (ms.map (cutIf seen part))) (hI : W.heap[it]? = some (.mapIter (some mb) cl seen cl)) (hO : Only ok w0 W) (hn : w0.heap.size ≤ it)
    (h0 : (∀ m ∈ ms, seen.contains m.born = true) → wpList Try.prog ops Q rest (a.put o.dst (.tuple #[.bool false])) W)
    (h1 : ∀ (i : Nat) (m : FM) (W2 : World), ms[i]? = some m → seen.contains m.born = false → DkMs W2 ok p s mb cl (ms.map (cutIf seen part)) → W2.heap[it]? = some (.mapIter (some mb) cl (seen.push m.born) cl) → Only ok w0 W2 → leftN W2 mb it < leftN W mb it →
      (Instr.entry (.pointer (some ⟨it, 0, none⟩))).run Try.prog W2 = .ok (.tuple #[.string (bs m.name), .pointer (some ⟨m.q, 0, none⟩)]) W2 →
      wpList Try.prog ops Q rest (a.put o.dst (.tuple #[.bool true, .string (bs m.name), .pointer (some ⟨m.q, 0, none⟩)])) W2) : wpList Try.prog ops Q (o :: rest) a W := by
  have hbn : ∀ x ∈ ((ms.map (cutIf seen part)).map ent).toArray.toList, x.born < cl := fun x hx => by
    rw [List.toList_toArray] at hx
    obtain ⟨m, hm, rfl⟩ := List.mem_map.1 hx
    exact hM.born m hm
  refine next_event hgd hop hv hI hM.mblk hbn (Nat.le_refl _) (fun hall => h0 fun m hm => ?_) (fun e he hs W1 hW1 => ?_)
  · have := hall (ent (cutIf seen part m)) (by rw [List.toList_toArray]; exact List.mem_map.2 ⟨_, List.mem_map.2 ⟨m, hm, rfl⟩, rfl⟩)
    have e : (ent (cutIf seen part m)).born = m.born := cutIf_born seen part m
    rwa [e] at this
  · have he2 := he
    rw [List.toList_toArray] at he2
    obtain ⟨m', hm', rfl⟩ := List.mem_map.1 he2
    obtain ⟨m, hm, rfl⟩ := List.mem_map.1 hm'
    have eb : (ent (cutIf seen part m)).born = m.born := cutIf_born seen part m
    have hs2 : seen.contains m.born = false := by rw [← eb]; exact hs
    have em : cutIf seen part m = m := by unfold cutIf; rw [hs2]; rfl
    obtain ⟨i, hi⟩ := List.mem_iff_getElem?.1 hm
    have hW : ∀ k : Nat, W1.heap[k]? = W.heap[k]? := fun k => by rcases hW1 with rfl | rfl <;> rfl
    have hsz : W1.heap.size = W.heap.size := by rcases hW1 with rfl | rfl <;> rfl
    have hO1 : Only ok w0 W1 := by
      rcases hW1 with rfl | rfl
      · exact hO
      · exact hO.drew
    have hitl : it < W1.heap.size := by rw [hsz]; exact blk_lt hI
    have hM1 : DkMs W1 ok p s mb cl (ms.map (cutIf seen part)) := by
      rcases hW1 with rfl | rfl
      · exact hM
      · exact hM.step ((Only.refl (fun _ => False) W).drew) (fun _ _ _ h => h)
    have hne : ∀ (k : Nat) (ob : Obj), W1.heap[k]? = some ob → (∀ q s2 c2 e2, ob ≠ .mapIter q s2 c2 e2) → k ≠ it := fun k ob hx1 hx2 e => by
      subst e
      rw [hW, hI] at hx1
      exact hx2 _ _ _ _ (Option.some.inj hx1).symm
    have hM2 : DkMs (setBlock W1 it (.mapIter (some mb) cl (seen.push m.born) cl)) ok p s mb cl (ms.map (cutIf seen part)) := by
      refine ⟨hM1.abs, hM1.okp, hM1.okm, (set_other W1 it p _ (hne p _ hM1.blk (fun _ _ _ _ e => by cases e))).trans hM1.blk, (set_other W1 it mb _ (hne mb _ hM1.mblk (fun _ _ _ _ e => by cases e))).trans hM1.mblk, fun x hx => ?_, hM1.apart, hM1.born⟩
      exact (hM1.files x hx).step (set_other W1 it _ _ (hne _ _ (hM1.files x hx).blk (fun _ _ _ _ e => by cases e))) (fun a ha => set_other W1 it _ _ (by
        obtain ⟨cur, h2⟩ := row_blk (hM1.files x hx).row a ha
        exact hne _ _ h2 (fun _ _ _ _ e => by cases e))) (fun _ hk => hk)
    have hI2 := set_heap W1 it (.mapIter (some mb) cl (seen.push m.born) cl) hitl
    have hl : leftN (setBlock W1 it (.mapIter (some mb) cl (seen.push m.born) cl)) mb it < leftN W mb it := by
      rw [leftN_is hI2 hM2.mblk, leftN_is hI hM.mblk]
      have := filter_less he hs
      rw [eb] at this
      exact this
    have hbd : (((ms.map (cutIf seen part)).map ent).toArray.toList.map (·.born)).Nodup := by
      rw [List.toList_toArray, List.map_map]
      exact List.pairwise_map.2 (hM.apart.imp (fun {a b} h => h.2.1))
    have hent := run_entry_at (P := Try.prog) (setBlock W1 it (.mapIter (some mb) cl (seen.push m.born) cl)) it mb cl seen _ cl (ent (cutIf seen part m)) (by rw [eb]; exact hI2) hM2.mblk he hbd
    rw [em] at hent ⊢
    exact h1 i m _ hi hs2 hM2 hI2 (hO1.setBlock (.inr hn) _) hl hent
end
set_option maxRecDepth 100000 in
set_option maxHeartbeats 1600000 in
theorem cut_calls (w : World) (ok : Nat → Prop) (p : Nat) (s : DS) (part : Int) (h : DkAt w ok p s) : Calls Try.prog 44 #[.pointer (some ⟨p, 0, none⟩), .int .i64 part] w fun e w' => e = .returned (.tuple #[]) ∧ DkAt w' ok p (s.cut part) ∧ Only ok w w' := by
  obtain ⟨mb, cl, ms, h⟩ := h
  obtain ⟨⟨c0, c1, c2, c3, c4⟩, f1, f2, f3, f4⟩ := h.cells
  have hrg := run_range (P := Try.prog) Try.underlying62 h.mblk
  have HH := Aside0.mk h
  clear h
  go_enter Try.func44, Try.ntmps44
  go_wp2_with fail
  have HS := Aside0.mk (show RelCut w ok p s part mb cl w.heap.size ms (w.alloc (.mapIter (some mb) cl #[] cl)) from by
    have hb : Below w.heap.size w (w.alloc (.mapIter (some mb) cl #[] cl)) := Below.alloc (Below.refl _ w) (Nat.le_refl _) _
    refine .mk #[] s.fs ?_ (heap_alloc w _).1 (Only.of_below hb) (Nat.le_refl _)
    rw [cutIf_empty]
    exact HH.out.step (Only.of_below (ok := fun _ => False) hb) (fun _ _ _ h => h))
  generalize hit : w.heap.size = it at *
  clear hit c0 c1 c2 c3 c4 f1 f2 f3 f4 hrg
  generalize w.alloc _ = w1 at *
  go_loopw [5] (fun v5 w' => RelCut w ok p s part mb cl it ms w') (fun _ w' => leftN w' mb it)
  case atStart => exact HS.out
  case round =>
    clear HS
    obtain ⟨seen, fs, hms, hit, ho, hn⟩ := hrel
    have HM := Aside0.mk hms
    have HI := Aside0.mk hit
    have HO := Aside0.mk ho
    have HN := Aside0.mk hn
    clear hms hit ho hn
    obtain ⟨⟨c0, c1, c2, c3, c4⟩, f1, f2, f3, f4⟩ := HM.out.cells
    go_upto_region 3 with (first
      | ((with_reducible refine gate_dst (N := 11) rfl ?_); refine next_cut rfl rfl rfl HM.out HI.out HO.out HN.out ?_ ?_; all_goals first | (intro i m w2 hi hs hM hI hO hl hent; have HMi := Aside0.mk hi; have HSn := Aside0.mk hs; have HM2 := Aside0.mk hM; have HI2 := Aside0.mk hI; have HO2 := Aside0.mk hO; have HL2 := Aside0.mk hl; clear hi hs hM hI hO hl) | (intro hall; have HAll := Aside0.mk hall; clear hall))
      | fail)
    · go_end0
      have hfs : fs = s.fs.map fun x => (x.1, cut1 part x.2) := by
        have h1 : (ms.map (cutIf seen part)).map FM.abs = fs := HM.out.abs
        have h2 : ms.map FM.abs = s.fs := HH.out.abs
        rw [← h1, cutIf_all part HAll.out, ← h2, List.map_map, List.map_map]
        rfl
      subst hfs
      exact ⟨rfl, ⟨mb, cl, _, HM.out.set_off true⟩, HO.out.set 1 (.inl HM.out.okp) _⟩
    · have hem : cutIf seen part m = m := by unfold cutIf; rw [HSn.out]; rfl
      have hmi : (ms.map (cutIf seen part))[i]? = some m := by rw [List.getElem?_map, HMi.out, Option.map_some, hem]
      have HMi2 := Aside0.mk hmi
      have hf := HM2.out.files m (List.mem_of_getElem? hmi)
      have HF := Aside0.mk hf
      have hcn := cutN_le part (m.bytes, m.syn) hf.syn
      have hmax0 : maxLen = 9223372036854775807 := rfl
      have hrow := hf.row
      have hc1 := hrow.cap
      have hc2 := hrow.max
      have hsy := hf.syn
      simp only at hcn
      have d0 : w2.cell? ⟨m.q, 0, none⟩ = some (.slice m.A m.bytes.length m.c) := (blk_cell hf.blk 0).trans rfl
      have d1 : w2.cell? ⟨m.q, 1, none⟩ = some (.int .i64 m.syn) := (blk_cell hf.blk 1).trans rfl
      have g0 := blk_frozen hf.blk 0
      have g1 := blk_frozen hf.blk 1
      obtain ⟨pp, hpp⟩ : ∃ pp, max part 0 = pp := ⟨_, rfl⟩
      obtain ⟨k, hk⟩ : ∃ k, cutN part (m.bytes, m.syn) = k := ⟨_, rfl⟩
      have hk0 : m.syn + (min pp ((m.bytes.length : Int) - m.syn)).toNat = k := by rw [← hk, ← hpp]; rfl
      rw [hk] at hcn
      obtain ⟨d, hd0⟩ : ∃ d, m.bytes.length - m.syn = d := ⟨_, rfl⟩
      obtain ⟨e, he0⟩ : ∃ e, k - m.syn = e := ⟨_, rfl⟩
      have hmx : Builtin.max2 (.int .i64 part) (.int .i64 0) = pure (.int .i64 pp) := by
        rw [max2_int]
        congr 2
        split <;> omega
      have hmn : Builtin.min2 (.int .i64 pp) (.int .i64 (d : Int)) = pure (.int .i64 (e : Int)) := by
        rw [min2_int]
        congr 2
        split <;> omega
      have hkc : (k : Int) ≤ (m.c : Int) := by omega
      have hk1 : (0 : Int) ≤ (k : Int) := by omega
      have hwd : wrap64 ((m.bytes.length : Int) - (m.syn : Int)) = (d : Int) := by unfold wrap64; omega
      have hwk : wrap64 ((m.syn : Int) + (e : Int)) = (k : Int) := by unfold wrap64; omega
      have HK := Aside0.mk hk
      clear hem hmi hf hcn hmax0 hrow hc1 hc2 hsy hk hk0 hd0 he0 hpp c0 c1 c2 c3 c4 f1 f2 f3 f4 hent
      have HQq := Aside0.mk (rfl : m.q = m.q)
      generalize hq : m.q = q at d0 d1 g0 g1 ⊢
      have HQ := Aside0.mk hq
      generalize hA : m.A = A at d0
      have HA := Aside0.mk hA
      generalize hn : m.bytes.length = n at d0 hwd
      have HN2 := Aside0.mk hn
      generalize hsn : m.syn = sn at d1 hwd hwk
      generalize hc : m.c = c at d0 hkc
      have HC2 := Aside0.mk hc
      clear hq hA hn hsn hc HQq
      refine start_ (n := 21) (S := fun w' => w'.cell? ⟨q, 0, none⟩ = some (.slice A n c) ∧ w'.cell? ⟨q, 1, none⟩ = some (.int .i64 sn) ∧ w'.frozen? ⟨q, 1, none⟩ = false) (ds := [20]) #[false, false, false, false, false, false, false, false, false, false, false, false, false, false, false, false, false, false, false, false, false] (by kernel_rfl) rfl rfl ⟨d0, d1, g1⟩ (fun hHeld => ?_)
      refine pure_ (i := 0) (N := some 15) (v := ?_) (a' := ?_) #[true, false, false, false, false, false, false, false, false, false, false, false, false, false, false, false, false, false, false, false, false] rfl rfl (by kernel_rfl) (fun _ _ _ h => h) (Or.inl ⟨by rfl, ?_⟩) ?_ ?_
      rotate_left
      · intro w'
        go_simp
        with_reducible rfl
      rotate_left
      · simp only [Act.put, List.setIfInBounds_toArray, List.set_cons_zero, List.set_cons_succ, i64_w, i32_w]
        rfl
      refine pure_ (i := 1) (N := some 16) (v := ?_) (a' := ?_) #[true, true, false, false, false, false, false, false, false, false, false, false, false, false, false, false, false, false, false, false, false] rfl rfl (by kernel_rfl) (fun _ _ _ h => h) (Or.inl ⟨by rfl, ?_⟩) ?_ ?_
      rotate_left
      · intro w'
        go_simp
        with_reducible rfl
      rotate_left
      · simp only [Act.put, List.setIfInBounds_toArray, List.set_cons_zero, List.set_cons_succ, i64_w, i32_w]
        rfl
      refine pure_ (i := 2) (N := some 17) (v := ?_) (a' := ?_) #[true, true, true, false, false, false, false, false, false, false, false, false, false, false, false, false, false, false, false, false, false] rfl rfl (by kernel_rfl) (fun _ _ _ h => h) (Or.inl ⟨by rfl, ?_⟩) ?_ ?_
      rotate_left
      · intro w'
        go_simp
        with_reducible rfl
      rotate_left
      · simp only [Act.put, List.setIfInBounds_toArray, List.set_cons_zero, List.set_cons_succ, i64_w, i32_w]
        rfl
      refine pure_ (i := 4) (N := some 19) (v := ?_) (a' := ?_) #[true, true, true, false, true, false, false, false, false, false, false, false, false, false, false, false, false, false, false, false, false] rfl rfl (by kernel_rfl) (fun _ _ _ h => h) (Or.inl ⟨by rfl, ?_⟩) ?_ ?_
      rotate_left
      · intro w'
        go_simp
        with_reducible rfl
      rotate_left
      · simp only [Act.put, List.setIfInBounds_toArray, List.set_cons_zero, List.set_cons_succ, i64_w, i32_w]
        rfl
      refine pure_ (i := 5) (N := some 20) (v := ?_) (a' := ?_) #[true, true, true, false, true, true, false, false, false, false, false, false, false, false, false, false, false, false, false, false, false] rfl rfl (by kernel_rfl) (fun _ _ _ h => h) (Or.inl ⟨by rfl, ?_⟩) ?_ ?_
      rotate_left
      · intro w'
        go_simp
        with_reducible rfl
      rotate_left
      · simp only [Act.put, List.setIfInBounds_toArray, List.set_cons_zero, List.set_cons_succ, i64_w, i32_w]
        rfl
      refine pure_ (i := 6) (N := some 21) (v := ?_) (a' := ?_) #[true, true, true, false, true, true, true, false, false, false, false, false, false, false, false, false, false, false, false, false, false] rfl rfl (by kernel_rfl) (fun _ _ _ h => h) (Or.inl ⟨by rfl, ?_⟩) ?_ ?_
      rotate_left
      · intro w'
        go_simp
        with_reducible rfl
      rotate_left
      · simp only [Act.put, List.setIfInBounds_toArray, List.set_cons_zero, List.set_cons_succ, i64_w, i32_w]
        rfl
      refine pure_ (i := 7) (N := some 22) (v := ?_) (a' := ?_) #[true, true, true, false, true, true, true, true, false, false, false, false, false, false, false, false, false, false, false, false, false] rfl rfl (by kernel_rfl) (fun _ _ _ h => h) (Or.inl ⟨by rfl, ?_⟩) ?_ ?_
      rotate_left
      · intro w'
        go_simp
        with_reducible rfl
      rotate_left
      · simp only [Act.put, List.setIfInBounds_toArray, List.set_cons_zero, List.set_cons_succ, i64_w, i32_w]
        rfl
      refine pure_ (i := 8) (N := some 23) (v := ?_) (a' := ?_) #[true, true, true, false, true, true, true, true, true, false, false, false, false, false, false, false, false, false, false, false, false] rfl rfl (by kernel_rfl) (fun _ _ _ h => h) (Or.inl ⟨by rfl, ?_⟩) ?_ ?_
      rotate_left
      · intro w'
        go_simp
        with_reducible rfl
      rotate_left
      · simp only [Act.put, List.setIfInBounds_toArray, List.set_cons_zero, List.set_cons_succ, i64_w, i32_w]
        rfl
      refine pure_ (i := 11) (N := some 26) (v := ?_) (a' := ?_) #[true, true, true, false, true, true, true, true, true, false, false, true, false, false, false, false, false, false, false, false, false] rfl rfl (by kernel_rfl) (fun _ _ _ h => h) (Or.inl ⟨by rfl, ?_⟩) ?_ ?_
      rotate_left
      · intro w'
        go_simp
        with_reducible rfl
      rotate_left
      · simp only [Act.put, List.setIfInBounds_toArray, List.set_cons_zero, List.set_cons_succ, i64_w, i32_w]
        rfl
      refine pure_ (i := 12) (N := some 27) (v := ?_) (a' := ?_) #[true, true, true, false, true, true, true, true, true, false, false, true, true, false, false, false, false, false, false, false, false] rfl rfl (by kernel_rfl) (fun _ _ _ h => h) (Or.inl ⟨by rfl, ?_⟩) ?_ ?_
      rotate_left
      · intro w'
        go_simp
        with_reducible rfl
      rotate_left
      · simp only [Act.put, List.setIfInBounds_toArray, List.set_cons_zero, List.set_cons_succ, i64_w, i32_w]
        rfl
      refine pure_ (i := 13) (N := some 28) (v := ?_) (a' := ?_) #[true, true, true, false, true, true, true, true, true, false, false, true, true, true, false, false, false, false, false, false, false] rfl rfl (by kernel_rfl) (fun _ _ _ h => h) (Or.inl ⟨by rfl, ?_⟩) ?_ ?_
      rotate_left
      · intro w'
        go_simp
        with_reducible rfl
      rotate_left
      · simp only [Act.put, List.setIfInBounds_toArray, List.set_cons_zero, List.set_cons_succ, i64_w, i32_w]
        rfl
      refine take_ (i := 3) (N := some 18) (v := ?_) (a' := ?_) #[true, true, true, true, true, true, true, true, true, false, false, true, true, true, false, false, false, false, false, false, false] rfl rfl (by kernel_rfl) (fun _ _ _ h => h) (Or.inl ⟨by rfl, ?_⟩) hHeld ?_ ?_
      rotate_left
      · rintro w' ⟨s0, s1, s2⟩
        go_simp
        with_reducible rfl
      rotate_left
      · simp only [Act.put, List.setIfInBounds_toArray, List.set_cons_zero, List.set_cons_succ, i64_w, i32_w]
        rfl
      refine take_ (i := 9) (N := some 24) (v := ?_) (a' := ?_) #[true, true, true, true, true, true, true, true, true, true, false, true, true, true, false, false, false, false, false, false, false] rfl rfl (by kernel_rfl) (fun _ _ _ h => h) (Or.inl ⟨by rfl, ?_⟩) hHeld ?_ ?_
      rotate_left
      · rintro w' ⟨s0, s1, s2⟩
        go_simp
        with_reducible rfl
      rotate_left
      · simp only [Act.put, List.setIfInBounds_toArray, List.set_cons_zero, List.set_cons_succ, i64_w, i32_w]
        rfl
      refine pure_ (i := 10) (N := some 25) (v := ?_) (a' := ?_) #[true, true, true, true, true, true, true, true, true, true, true, true, true, true, false, false, false, false, false, false, false] rfl rfl (by kernel_rfl) (fun _ _ _ h => h) (Or.inl ⟨by rfl, ?_⟩) ?_ ?_
      rotate_left
      · intro w'
        go_simp
        with_reducible rfl
      rotate_left
      · simp only [Act.put, List.setIfInBounds_toArray, List.set_cons_zero, List.set_cons_succ, i64_w, i32_w]
        rfl
      refine take_ (i := 14) (N := some 29) (v := ?_) (a' := ?_) #[true, true, true, true, true, true, true, true, true, true, true, true, true, true, true, false, false, false, false, false, false] rfl rfl (by kernel_rfl) (fun _ _ _ h => h) (Or.inl ⟨by rfl, ?_⟩) hHeld ?_ ?_
      rotate_left
      · rintro w' ⟨s0, s1, s2⟩
        go_simp
        with_reducible rfl
      rotate_left
      · simp only [Act.put, List.setIfInBounds_toArray, List.set_cons_zero, List.set_cons_succ, i64_w, i32_w]
        rfl
      refine pure_ (i := 15) (N := some 30) (v := ?_) (a' := ?_) #[true, true, true, true, true, true, true, true, true, true, true, true, true, true, true, true, false, false, false, false, false] rfl rfl (by kernel_rfl) (fun _ _ _ h => h) (Or.inl ⟨by rfl, ?_⟩) ?_ ?_
      rotate_left
      · intro w'
        go_simp
        with_reducible rfl
      rotate_left
      · simp only [Act.put, List.setIfInBounds_toArray, List.set_cons_zero, List.set_cons_succ, i64_w, i32_w]
        rfl
      refine pure_ (i := 16) (N := some 31) (v := ?_) (a' := ?_) #[true, true, true, true, true, true, true, true, true, true, true, true, true, true, true, true, true, false, false, false, false] rfl rfl (by kernel_rfl) (fun _ _ _ h => h) (Or.inl ⟨by rfl, ?_⟩) ?_ ?_
      rotate_left
      · intro w'
        go_simp
        with_reducible rfl
      rotate_left
      · simp only [Act.put, List.setIfInBounds_toArray, List.set_cons_zero, List.set_cons_succ, i64_w, i32_w]
        rfl
      refine pure_ (i := 17) (N := some 32) (v := ?_) (a' := ?_) #[true, true, true, true, true, true, true, true, true, true, true, true, true, true, true, true, true, true, false, false, false] rfl rfl (by kernel_rfl) (fun _ _ _ h => h) (Or.inl ⟨by rfl, ?_⟩) ?_ ?_
      rotate_left
      · intro w'
        go_simp
        with_reducible rfl
      rotate_left
      · simp only [Act.put, List.setIfInBounds_toArray, List.set_cons_zero, List.set_cons_succ, i64_w, i32_w]
        rfl
      refine pure_ (i := 18) (N := some 33) (v := ?_) (a' := ?_) #[true, true, true, true, true, true, true, true, true, true, true, true, true, true, true, true, true, true, true, false, false] rfl rfl (by kernel_rfl) (fun _ _ _ h => h) (Or.inl ⟨by rfl, ?_⟩) ?_ ?_
      rotate_left
      · intro w'
        go_simp
        with_reducible rfl
      rotate_left
      · simp only [Act.put, List.setIfInBounds_toArray, List.set_cons_zero, List.set_cons_succ, i64_w, i32_w]
        rfl
      refine pure_ (i := 19) (N := some 34) (v := ?_) (a' := ?_) #[true, true, true, true, true, true, true, true, true, true, true, true, true, true, true, true, true, true, true, true, false] rfl rfl (by kernel_rfl) (fun _ _ _ h => h) (Or.inl ⟨by rfl, ?_⟩) ?_ ?_
      rotate_left
      · intro w'
        go_simp
        with_reducible rfl
      rotate_left
      · simp only [Act.put, List.setIfInBounds_toArray, List.set_cons_zero, List.set_cons_succ, i64_w, i32_w]
        rfl
      refine last_ (i := 20) (N := none) #[true, true, true, true, true, true, true, true, true, true, true, true, true, true, true, true, true, true, true, true, true] rfl rfl (by kernel_rfl) (by decide) (fun K hK => ?_)
      refine skip_ (w1 := ?_) (by rfl) rfl ?_ ?_
      rotate_left
      · go_simp
        rfl
      refine hK.out _ _ ?_
      clear hK K
      refine done_ (by kernel_rfl) ?_
      clear hwd hwk hmx hmn hHeld d0 d1 g0 g1
      go_wp2_with fail
      have hb2 : w2.heap[q]? = some (.cells #[.slice m.A m.bytes.length m.c, .int .i64 m.syn] 68 (0, 0)) := HQ.out ▸ HF.out.blk
      have HB3 := Aside0.mk (show ((w2.setCell ⟨q, 1, none⟩ (.int .i64 (k : Int))).drew).heap[q]? = some (.cells #[.slice m.A m.bytes.length m.c, .int .i64 (k : Int)] 68 (0, 0)) from blk_set hb2 1 _)
      have HO3 := Aside0.mk (show Only (fun j => j = q) w2 ((w2.setCell ⟨q, 1, none⟩ (.int .i64 (k : Int))).drew) from ((Only.refl (fun j => j = q) w2).set 1 (.inl rfl) _).drew)
      have HS3 := Aside0.mk (show ((w2.setCell ⟨q, 1, none⟩ (.int .i64 (k : Int))).drew).heap.size = w2.heap.size by simp [World.setCell, World.drew])
      clear hb2
      generalize (w2.setCell ⟨q, 1, none⟩ (.int .i64 (k : Int))).drew = w3 at *
      have d0 : w3.cell? ⟨q, 0, none⟩ = some (.slice A n c) := ((blk_cell HB3.out 0).trans rfl).trans (by rw [HA.out, HN2.out, HC2.out]; rfl)
      have d1 : w3.cell? ⟨q, 1, none⟩ = some (.int .i64 (k : Int)) := (blk_cell HB3.out 1).trans rfl
      have g0 := blk_frozen HB3.out 0
      refine start_ (n := 17) (S := fun w' => w'.cell? ⟨q, 0, none⟩ = some (.slice A n c) ∧ w'.cell? ⟨q, 1, none⟩ = some (.int .i64 (k : Int)) ∧ w'.frozen? ⟨q, 0, none⟩ = false) (ds := [16]) #[false, false, false, false, false, false, false, false, false, false, false, false, false, false, false, false, false] (by kernel_rfl) rfl rfl ⟨d0, d1, g0⟩ (fun hHeld => ?_)
      refine pure_ (i := 0) (N := some 35) (v := ?_) (a' := ?_) #[true, false, false, false, false, false, false, false, false, false, false, false, false, false, false, false, false] rfl rfl (by kernel_rfl) (fun _ _ _ h => h) (Or.inl ⟨by rfl, ?_⟩) ?_ ?_
      rotate_left
      · intro w'
        go_simp
        with_reducible rfl
      rotate_left
      · simp only [Act.put, List.setIfInBounds_toArray, List.set_cons_zero, List.set_cons_succ, i64_w, i32_w]
        rfl
      refine pure_ (i := 1) (N := some 36) (v := ?_) (a' := ?_) #[true, true, false, false, false, false, false, false, false, false, false, false, false, false, false, false, false] rfl rfl (by kernel_rfl) (fun _ _ _ h => h) (Or.inl ⟨by rfl, ?_⟩) ?_ ?_
      rotate_left
      · intro w'
        go_simp
        with_reducible rfl
      rotate_left
      · simp only [Act.put, List.setIfInBounds_toArray, List.set_cons_zero, List.set_cons_succ, i64_w, i32_w]
        rfl
      refine pure_ (i := 2) (N := some 37) (v := ?_) (a' := ?_) #[true, true, true, false, false, false, false, false, false, false, false, false, false, false, false, false, false] rfl rfl (by kernel_rfl) (fun _ _ _ h => h) (Or.inl ⟨by rfl, ?_⟩) ?_ ?_
      rotate_left
      · intro w'
        go_simp
        with_reducible rfl
      rotate_left
      · simp only [Act.put, List.setIfInBounds_toArray, List.set_cons_zero, List.set_cons_succ, i64_w, i32_w]
        rfl
      refine pure_ (i := 3) (N := some 38) (v := ?_) (a' := ?_) #[true, true, true, true, false, false, false, false, false, false, false, false, false, false, false, false, false] rfl rfl (by kernel_rfl) (fun _ _ _ h => h) (Or.inl ⟨by rfl, ?_⟩) ?_ ?_
      rotate_left
      · intro w'
        go_simp
        with_reducible rfl
      rotate_left
      · simp only [Act.put, List.setIfInBounds_toArray, List.set_cons_zero, List.set_cons_succ, i64_w, i32_w]
        rfl
      refine pure_ (i := 5) (N := some 40) (v := ?_) (a' := ?_) #[true, true, true, true, false, true, false, false, false, false, false, false, false, false, false, false, false] rfl rfl (by kernel_rfl) (fun _ _ _ h => h) (Or.inl ⟨by rfl, ?_⟩) ?_ ?_
      rotate_left
      · intro w'
        go_simp
        with_reducible rfl
      rotate_left
      · simp only [Act.put, List.setIfInBounds_toArray, List.set_cons_zero, List.set_cons_succ, i64_w, i32_w]
        rfl
      refine pure_ (i := 6) (N := some 41) (v := ?_) (a' := ?_) #[true, true, true, true, false, true, true, false, false, false, false, false, false, false, false, false, false] rfl rfl (by kernel_rfl) (fun _ _ _ h => h) (Or.inl ⟨by rfl, ?_⟩) ?_ ?_
      rotate_left
      · intro w'
        go_simp
        with_reducible rfl
      rotate_left
      · simp only [Act.put, List.setIfInBounds_toArray, List.set_cons_zero, List.set_cons_succ, i64_w, i32_w]
        rfl
      refine pure_ (i := 7) (N := some 42) (v := ?_) (a' := ?_) #[true, true, true, true, false, true, true, true, false, false, false, false, false, false, false, false, false] rfl rfl (by kernel_rfl) (fun _ _ _ h => h) (Or.inl ⟨by rfl, ?_⟩) ?_ ?_
      rotate_left
      · intro w'
        go_simp
        with_reducible rfl
      rotate_left
      · simp only [Act.put, List.setIfInBounds_toArray, List.set_cons_zero, List.set_cons_succ, i64_w, i32_w]
        rfl
      refine pure_ (i := 9) (N := some 44) (v := ?_) (a' := ?_) #[true, true, true, true, false, true, true, true, false, true, false, false, false, false, false, false, false] rfl rfl (by kernel_rfl) (fun _ _ _ h => h) (Or.inl ⟨by rfl, ?_⟩) ?_ ?_
      rotate_left
      · intro w'
        go_simp
        with_reducible rfl
      rotate_left
      · simp only [Act.put, List.setIfInBounds_toArray, List.set_cons_zero, List.set_cons_succ, i64_w, i32_w]
        rfl
      refine pure_ (i := 10) (N := some 45) (v := ?_) (a' := ?_) #[true, true, true, true, false, true, true, true, false, true, true, false, false, false, false, false, false] rfl rfl (by kernel_rfl) (fun _ _ _ h => h) (Or.inl ⟨by rfl, ?_⟩) ?_ ?_
      rotate_left
      · intro w'
        go_simp
        with_reducible rfl
      rotate_left
      · simp only [Act.put, List.setIfInBounds_toArray, List.set_cons_zero, List.set_cons_succ, i64_w, i32_w]
        rfl
      refine pure_ (i := 11) (N := some 46) (v := ?_) (a' := ?_) #[true, true, true, true, false, true, true, true, false, true, true, true, false, false, false, false, false] rfl rfl (by kernel_rfl) (fun _ _ _ h => h) (Or.inl ⟨by rfl, ?_⟩) ?_ ?_
      rotate_left
      · intro w'
        go_simp
        with_reducible rfl
      rotate_left
      · simp only [Act.put, List.setIfInBounds_toArray, List.set_cons_zero, List.set_cons_succ, i64_w, i32_w]
        rfl
      refine take_ (i := 4) (N := some 39) (v := ?_) (a' := ?_) #[true, true, true, true, true, true, true, true, false, true, true, true, false, false, false, false, false] rfl rfl (by kernel_rfl) (fun _ _ _ h => h) (Or.inl ⟨by rfl, ?_⟩) hHeld ?_ ?_
      rotate_left
      · rintro w' ⟨s0, s1, s2⟩
        go_simp
        with_reducible rfl
      rotate_left
      · simp only [Act.put, List.setIfInBounds_toArray, List.set_cons_zero, List.set_cons_succ, i64_w, i32_w]
        rfl
      refine take_ (i := 8) (N := some 43) (v := ?_) (a' := ?_) #[true, true, true, true, true, true, true, true, true, true, true, true, false, false, false, false, false] rfl rfl (by kernel_rfl) (fun _ _ _ h => h) (Or.inl ⟨by rfl, ?_⟩) hHeld ?_ ?_
      rotate_left
      · rintro w' ⟨s0, s1, s2⟩
        go_simp
        with_reducible rfl
      rotate_left
      · simp only [Act.put, List.setIfInBounds_toArray, List.set_cons_zero, List.set_cons_succ, i64_w, i32_w]
        rfl
      refine take_ (i := 12) (N := some 47) (v := ?_) (a' := ?_) #[true, true, true, true, true, true, true, true, true, true, true, true, true, false, false, false, false] rfl rfl (by kernel_rfl) (fun _ _ _ h => h) (Or.inl ⟨by rfl, ?_⟩) hHeld ?_ ?_
      rotate_left
      · rintro w' ⟨s0, s1, s2⟩
        go_simp
        with_reducible rfl
      rotate_left
      · simp only [Act.put, List.setIfInBounds_toArray, List.set_cons_zero, List.set_cons_succ, i64_w, i32_w]
        rfl
      refine pure_ (i := 13) (N := some 48) (v := ?_) (a' := ?_) #[true, true, true, true, true, true, true, true, true, true, true, true, true, true, false, false, false] rfl rfl (by kernel_rfl) (fun _ _ _ h => h) (Or.inl ⟨by rfl, ?_⟩) ?_ ?_
      rotate_left
      · intro w'
        go_simp
        with_reducible rfl
      rotate_left
      · simp only [Act.put, List.setIfInBounds_toArray, List.set_cons_zero, List.set_cons_succ, i64_w, i32_w]
        rfl
      refine pure_ (i := 14) (N := some 49) (v := ?_) (a' := ?_) #[true, true, true, true, true, true, true, true, true, true, true, true, true, true, true, false, false] rfl rfl (by kernel_rfl) (fun _ _ _ h => h) (Or.inl ⟨by rfl, ?_⟩) ?_ ?_
      rotate_left
      · intro w'
        go_simp
        with_reducible rfl
      rotate_left
      · simp only [Act.put, List.setIfInBounds_toArray, List.set_cons_zero, List.set_cons_succ, i64_w, i32_w]
        rfl
      refine pure_ (i := 15) (N := some 50) (v := ?_) (a' := ?_) #[true, true, true, true, true, true, true, true, true, true, true, true, true, true, true, true, false] rfl rfl (by kernel_rfl) (fun _ _ _ h => h) (Or.inl ⟨by rfl, ?_⟩) ?_ ?_
      rotate_left
      · intro w'
        go_simp
        with_reducible rfl
      rotate_left
      · simp only [Act.put, List.setIfInBounds_toArray, List.set_cons_zero, List.set_cons_succ, i64_w, i32_w]
        rfl
      refine last_ (i := 16) (N := none) #[true, true, true, true, true, true, true, true, true, true, true, true, true, true, true, true, true] rfl rfl (by kernel_rfl) (by decide) (fun K hK => ?_)
      refine skip_ (w1 := ?_) (by rfl) rfl ?_ ?_
      rotate_left
      · go_simp
        rfl
      refine hK.out _ _ ?_
      clear hK K
      refine done_ (by kernel_rfl) ?_
      clear hHeld d0 d1 g0 hkc hk1
      go_wp2_with fail
      have HB4 := Aside0.mk (show ((w3.setCell ⟨q, 0, none⟩ (.slice A k k)).drew).heap[q]? = some (.cells #[.slice A k k, .int .i64 (k : Int)] 68 (0, 0)) from blk_set HB3.out 0 _)
      have HO4 := Aside0.mk (show Only (fun j => j = q) w2 ((w3.setCell ⟨q, 0, none⟩ (.slice A k k)).drew) from (HO3.out.set 0 (.inl rfl) _).drew)
      have HS4 := Aside0.mk (show ((w3.setCell ⟨q, 0, none⟩ (.slice A k k)).drew).heap.size = w2.heap.size by rw [← HS3.out]; simp [World.setCell, World.drew])
      generalize (w3.setCell ⟨q, 0, none⟩ (.slice A k k)).drew = w4 at *
      have hcut := HM2.out.cut_at HMi2.out part (by rw [HQ.out]; exact HO4.out) HS4.out (by rw [HQ.out, HK.out, HA.out]; exact HB4.out)
      have hq := ne_kind HI2.out (HM2.out.files m (List.mem_of_getElem? HMi2.out)).blk (fun e => by cases e)
      rw [HQ.out] at hq
      have hit4 : w4.heap[it]? = some (.mapIter (some mb) cl (seen.push m.born) cl) := (HO4.out.block it (blk_lt HI2.out) hq).trans HI2.out
      have hapm : ms.Pairwise Apart := HH.out.apart
      rw [← cutIf_push hapm HMi.out] at hcut
      have hok : ok q := by rw [← HQ.out]; exact HF.out.okq
      have hmb4 := hcut.mblk
      have hl : leftN w4 mb it = leftN w2 mb it := by
        rw [leftN_is hit4 hmb4, leftN_is HI2.out HM2.out.mblk]
        have h1 : ∀ (l : List FM) (g : FM → FM), (∀ x, (g x).born = x.born) → (((l.map g).map ent).toArray.toList.filter fun e => !(seen.push m.born).contains e.born).length = (l.filter fun x => !(seen.push m.born).contains x.born).length := fun l g hg => by
          rw [List.toList_toArray, List.map_map, List.filter_map, List.length_map]
          congr 2
          funext x
          show (!(seen.push m.born).contains (g x).born) = _
          rw [hg]
        rw [h1 ms _ (cutIf_born _ part), h1 ms _ (cutIf_born _ part)]
      have HRel := Aside0.mk (show RelCut w ok p s part mb cl it ms w4 from .mk (seen.push m.born) _ hcut hit4 (HO2.out.trans HO4.out (fun k e => .inl (by rw [show k = q from e]; exact hok))) HN.out)
      have HLt := Aside0.mk (show leftN w4 mb it < leftN wr mb it by rw [hl]; exact HL2.out)
      clear hcut hq hit4 hapm hok hmb4 hl
      go_roundw
      case rel => exact HRel.out
      case measure => exact HLt.out
end Go.Proofs.Ytabomfmjepmkjaa.Dk
end

section
namespace Go.Proofs.Ytabomfmjepmkjaa.Dk
set_option linter.unusedVariables false
set_option linter.unusedSimpArgs false
open Go.RowKit Go.Proofs.YtabomfmjepmkjaaW.PrintWords Go.Proofs.YtabomfmjepmkjaaW.PrintLast Go.Proofs.YtabomfmjepmkjaaW.PrintMore Go.Proofs.Ytabomfmjepmkjaa.Lib Go.Proofs.Ytabomfmjepmkjaa.Mem Go.Proofs.Ytabomfmjepmkjaa.Txt
open Go.MapKept Go.ChangeMaps
set_option maxRecDepth 100000 in
set_option maxHeartbeats 400000 in
theorem Cut_calls (w : World) (ok : Nat → Prop) (p : Nat) (s : DS) (part : Int) (h : DkAt w ok p s) (ho : s.off = false) : Calls Try.prog 23 #[.pointer (some ⟨p, 0, none⟩), .int .i64 part] w fun e w' => e = .returned (.tuple #[]) ∧ DkAt w' ok p (s.cut part) ∧ Only ok w w' := by
  have HC := Aside0.mk (cut_calls w ok p s part h)
  obtain ⟨mb, cl, ms, h⟩ := h
  obtain ⟨⟨c0, c1, c2, c3, c4⟩, f1, f2, f3, f4⟩ := h.cells
  rw [ho] at c1
  clear h ho
  go_enter Try.func23, Try.ntmps23
  go_wp2_with fail
  refine HC.out.mono ?_
  rintro e w1 ⟨rfl, h1, h2⟩
  have H1 := Aside0.mk h1
  have H2 := Aside0.mk h2
  clear h1 h2
  go_wp2_with fail
  go_end0
  exact ⟨rfl, H1.out, H2.out⟩
theorem DkMs.counted {w : World} {ok : Nat → Prop} {p mb clock : Nat} {s : DS} {ms : List FM} (h : DkMs w ok p s mb clock ms) (k : Nat) : DkMs ((w.setCell ⟨p, 2, none⟩ (.int .i64 (s.ops + 1))).drewN k) ok p { s with ops := s.ops + 1 } mb clock ms := (h.set_ops (s.ops + 1)).drewN k
set_option maxRecDepth 100000 in
set_option maxHeartbeats 400000 in
theorem done_cut (w : World) (ok : Nat → Prop) (p : Nat) (s : DS) (fv : Value) (h : DkAt w ok p s) (ho : 0 ≤ s.ops ∧ s.ops < 4611686018427387904) (he : s.ops = s.cutAt) :
    Calls Try.prog 32 #[.pointer (some ⟨p, 0, none⟩), fv] w fun e w' => e = .returned (.int .i64 122) ∧ DkAt w' ok p (DS.cut { s with ops := s.ops + 1 } s.part) ∧ Only ok w w' := by
  obtain ⟨mb, cl, ms, h⟩ := h
  obtain ⟨⟨c0, c1, c2, c3, c4⟩, f1, f2, f3, f4⟩ := h.cells
  have HH := Aside0.mk h
  have HP := Aside0.mk h.okp
  rw [← he] at c3
  clear h he
  obtain ⟨h1, h2⟩ := ho
  have h3 : -9223372036854775808 ≤ s.ops := by omega
  generalize hops : s.ops = n at c2 c3 h1 h2 h3
  have HN := Aside0.mk hops
  clear hops
  have hbb : (n == n) = true := beq_self_eq_true n
  go_enter Try.func32, Try.ntmps32
  go_wp2_with fail
  have hw1 : wrap64 (n + 1 - 1) = n := by unfold wrap64; omega
  have hw2 : wrap64 (n + 1) = n + 1 := by unfold wrap64; omega
  go_quiet (fail)
  have hc := HH.out.counted nq
  rw [HN.out] at hc
  have HC := Aside0.mk hc
  have HO := Aside0.mk (show Only ok w ((w.setCell ⟨p, 2, none⟩ (.int .i64 (n + 1))).drewN nq) from ((Only.refl ok w).set 2 (.inl HP.out) _).drewN nq)
  clear hc hw1 hw2
  generalize World.drewN _ _ = w2 at *
  have hp := (blk_cell HC.out.blk 4).trans rfl
  clear c0 c1 c2 c3 c4 f1 f2 f3 f4
  have d4 : w2.cell? ⟨p, 4, none⟩ = some (.int .i64 s.part) := hp
  clear hp
  go_wp2_with fail
  refine (cut_calls w2 ok p _ s.part ⟨mb, cl, ms, HC.out⟩).mono ?_
  rintro e w3 ⟨rfl, g1, g2⟩
  have G1 := Aside0.mk g1
  have G2 := Aside0.mk (HO.out.trans g2 (fun k hk => .inl hk))
  clear g1 g2 d4
  go_wp2_with fail
  go_ret
  exact ⟨rfl, G1.out, G2.out⟩
set_option maxRecDepth 100000 in
set_option maxHeartbeats 400000 in
theorem done_do (w : World) (ok : Nat → Prop) (p : Nat) (s : DS) (f : FuncId) (cap : Array Value) (post : World → Prop) (h : DkAt w ok p s) (ho : 0 ≤ s.ops ∧ s.ops < 4611686018427387904) (he : s.ops ≠ s.cutAt) (hf : Fun f)
    (hdo : ∀ w1, (∀ mb cl ms, DkMs w ok p s mb cl ms → DkMs w1 ok p { s with ops := s.ops + 1 } mb cl ms) → Only (fun k => k = p) w w1 → Calls Try.prog f (#[] ++ #[] ++ cap) w1 fun e w2 => e = .returned (.tuple #[]) ∧ post w2) :
    Calls Try.prog 32 #[.pointer (some ⟨p, 0, none⟩), .func (.func f) #[] cap] w fun e w' => e = .returned (.int .i64 0) ∧ post w' := by
  obtain ⟨mb, cl, ms, h⟩ := h
  obtain ⟨⟨c0, c1, c2, c3, c4⟩, f1, f2, f3, f4⟩ := h.cells
  obtain ⟨fn, hf1, hf2, hf3⟩ := hf
  have HF := Aside0.mk hf1
  have HNm := Aside0.mk hf2
  have HBd := Aside0.mk hf3
  have HD := Aside0.mk hdo
  have hbb : (s.ops == s.cutAt) = false := beq_eq_false_iff_ne.2 he
  clear h he hdo hf1 hf2 hf3
  obtain ⟨h1, h2⟩ := ho
  have h3 : -9223372036854775808 ≤ s.ops := by omega
  generalize hops : s.ops = n at c2 h1 h2 h3 hbb
  generalize hcut : s.cutAt = m at c3 hbb
  have HN := Aside0.mk hops
  clear hops hcut
  go_enter Try.func32, Try.ntmps32
  go_wp2_with fail
  have hw1 : wrap64 (n + 1 - 1) = n := by unfold wrap64; omega
  have hw2 : wrap64 (n + 1) = n + 1 := by unfold wrap64; omega
  go_quiet (fail)
  have HC := Aside0.mk (HD.out ((w.setCell ⟨p, 2, none⟩ (.int .i64 (n + 1))).drewN nq) (fun mb cl ms h => by
    have hc := h.counted nq
    rw [HN.out] at hc ⊢
    exact hc) (((Only.refl (fun k => k = p) w).set 2 (.inl rfl) _).drewN nq))
  clear hw1 hw2 c0 c1 c2 c3 c4 f1 f2 f3 f4
  generalize World.drewN _ _ = w2 at *
  go_wp2_with (first
    | ((with_reducible refine gate_dst (N := 29) rfl ?_); refine goesLv_ (some 29) rfl rfl HF.out HNm.out HBd.out #[] rfl rfl (by simp) ?_; with_reducible refine HC.out.mono ?_; rintro e w3 ⟨rfl, hp⟩; refine ⟨_, rfl, ?_⟩; have HP := Aside0.mk hp; clear hp)
    | fail)
  go_ret
  exact ⟨rfl, HP.out⟩
end Go.Proofs.Ytabomfmjepmkjaa.Dk
end

section
namespace Go.Proofs.Ytabomfmjepmkjaa.Dk
set_option linter.unusedVariables false
set_option linter.unusedSimpArgs false
open Go.RowKit Go.Proofs.YtabomfmjepmkjaaW.PrintWords Go.Proofs.YtabomfmjepmkjaaW.PrintLast Go.Proofs.YtabomfmjepmkjaaW.PrintMore Go.Proofs.Ytabomfmjepmkjaa.Lib Go.Proofs.Ytabomfmjepmkjaa.Mem Go.Proofs.Ytabomfmjepmkjaa.Txt
open Go.MapKept Go.ChangeMaps
theorem text_row1 {w : World} {g : Nat} {nm : T} (h : w.heap[g]? = some (.cells #[.string (bs nm)] 9 (0, 0))) : text.C w (some ⟨g, 0, none⟩) 1 [nm] := by
  refine ⟨rfl, by decide, fun _ => ⟨_, rfl, fun j t ht => ⟨[.string (bs t)], rfl, rfl, fun i u hu => ?_⟩⟩⟩
  rcases i with _ | i
  · obtain rfl := Option.some.inj hu
    rcases j with _ | j
    · obtain rfl := Option.some.inj ht
      exact (blk_cell h 0).trans rfl
    · simp at ht
  · simp at hu
theorem text_row2 {w : World} {g : Nat} {a b : T} (h : w.heap[g]? = some (.cells #[.string (bs a), .string (bs b)] 9 (0, 0))) : text.C w (some ⟨g, 0, none⟩) 2 [a, b] := by
  refine ⟨rfl, by decide, fun _ => ⟨_, rfl, fun j t ht => ⟨[.string (bs t)], rfl, rfl, fun i u hu => ?_⟩⟩⟩
  have e1 : text.sz = 1 := rfl
  rcases i with _ | i
  · obtain rfl := Option.some.inj hu
    rcases j with _ | _ | j
    · obtain rfl := Option.some.inj ht
      exact (blk_cell h 0).trans rfl
    · obtain rfl := Option.some.inj ht
      rw [e1, add_at]
      exact (blk_cell h 1).trans rfl
    · simp at ht
  · simp at hu
theorem DkMs.below {w w' : World} {ok : Nat → Prop} {p mb cl : Nat} {s : DS} {ms : List FM} (h : DkMs w ok p s mb cl ms) (hb : Below w.heap.size w w') : DkMs w' ok p s mb cl ms := h.step (Only.of_below (ok := fun _ => False) hb) (fun _ _ _ h => h)
set_option maxRecDepth 100000 in
set_option maxHeartbeats 400000 in
theorem clone_bytes (xs : List Int) (len : Nat) (A : Option Addr) (c : Nat) (w : World) (hr : Kd.C (Kd.int .u8) w A len xs) (hl : xs.length * 1 ≤ 140737488355328) :
    Calls Try.prog 34 #[.slice A len c] w fun e w' => ∃ v, e = .returned v ∧ Kd.R (Kd.int .u8) 5 w' w.heap.size (fun _ => True) v xs ∧ Below w.heap.size w w' := by
  obtain rfl := hr.1
  have HR := Aside0.mk hr
  have HB := Aside0.mk (Below.refl w.heap.size w)
  clear hr
  have heq := fun u : World => Lib.run_eql_slice_nil (P := Try.prog) u 22 5 A xs.length c 0 0 Try.underlying22
  rcases A with _ | ad
  · have hx : xs = [] := by
      rcases xs with _ | ⟨x, l⟩
      · rfl
      · obtain ⟨ad, h, _⟩ := HR.out.2.2 (by simp)
        cases h
    subst hx
    simp only [List.length_nil, Option.isNone_none] at heq
    go_enter Try.func34, Try.ntmps34
    go_wp2
    go_ret
    exact ⟨_, rfl, Kd.R_nil _ _ _ _ _, HB.out⟩
  · go_enter Try.func34, Try.ntmps34
    go_wp2_with (first
      | ((with_reducible refine gate_dst (N := 5) rfl ?_); refine Kd.R_lit (Kd.int .u8) (w0 := w) w.heap.size 5 ?hg (N := 5) ?hd (xs := ([] : List Int)) (inner := []) (ok := fun _ => True) (okp := fun _ => True) ?hr (Reps.none _ _) (fun _ hk => hk) trivial HB.out (Nat.le_refl _) (by simp) ?_; (case hd => rfl); (case hg => rfl); (case hr => first | (go_simp; done) | (go_simp; rfl)); intro v1 w1 ho1 hb1 hg1 ha1; have HO := Aside0.mk ho1; have HB1 := Aside0.mk hb1; have HR1 := Aside0.mk (Kd.C_below HR.out hb1); clear ho1 hb1 hg1 ha1)
      | ((with_reducible refine gate_builtin (b := .append) (xs := #[.tmp 5, .tmp 6]) rfl ?_); at_builtin; refine Kd.R_append_rows (Kd.int .u8) (w0 := w) w.heap.size rfl (.tmp 5) (.tmp 6) 22 5 (.int .u8 0) 1 rfl Try.underlying22 info5 rfl (by decide) (by omega) v1 [] xs (some ad) xs.length c (fun _ => True) (fun _ => False) rfl rfl HO.out HR1.out ?aK (fun _ h => h.elim) (fun _ _ => trivial) HB1.out HB1.out.size ?aL ?_; (case aK => exact fun _ _ h => h); (case aL => simp only [List.length_nil, Nat.zero_add]; exact hl); intro v2 w2 ho2 hb2 hg2 ha2; have HO2 := Aside0.mk ho2; have HB2 := Aside0.mk hb2; clear ho2 hb2 hg2 ha2))
    go_ret
    exact ⟨_, rfl, HO2.out, HB2.out⟩
def ops62 (s : DS) : Prop := 0 ≤ s.ops ∧ s.ops < 4611686018427387904
theorem refuse_there {s : DS} {nm : T} {names : List T} (h : refuse s true (nm :: names) = 0) : ∃ v, look s.fs nm = some v := by
  unfold refuse at h
  split at h
  · cases h
  · split at h
    · cases h
    · split at h
      · cases h
      · rename_i h3
        cases hl : look s.fs nm with
        | some v => exact ⟨v, rfl⟩
        | none =>
          rw [show (nm :: names).headD [] = nm from rfl, hl] at h3
          exact absurd rfl h3
theorem DkMs.find_of {w : World} {ok : Nat → Prop} {p mb cl : Nat} {s : DS} {ms : List FM} (h : DkMs w ok p s mb cl ms) {nm : T} {v : Fv} (hl : look s.fs nm = some v) : ∃ (i : Nat) (m : FM), ms[i]? = some m ∧ m.name = nm ∧ v = (m.bytes, m.syn) := by
  rcases find_cases ms nm with hf | ⟨i, m, hi, rfl⟩
  · rw [h.look_no hf] at hl; cases hl
  · rw [h.look_yes hi] at hl
    exact ⟨i, m, hi, rfl, (Option.some.inj hl).symm⟩
set_option maxRecDepth 100000 in
set_option maxHeartbeats 400000 in
theorem read_no (w : World) (ok : Nat → Prop) (p : Nat) (s : DS) (nm : T) (h : DkAt w ok p s) (hs : Shorts [nm]) (hr : refuse s true [nm] ≠ 0) :
    Calls Try.prog 15 #[.pointer (some ⟨p, 0, none⟩), .string (bs nm)] w fun e w' => e = .returned (.tuple #[.slice none 0 0, .int .i64 (refuse s true [nm])]) ∧ Below w.heap.size w w' := by
  have HR := Aside0.mk (fun w' A c (hb : Below w.heap.size w w') (hC : text.C w' A 1 [nm]) => refused_calls w' ok p 1 c s true A [nm] (h.below hb) hC hs (by simp))
  have hb0 : (refuse s true [nm] == 0) = false := beq_eq_false_iff_ne.2 hr
  have hne : (refuse s true [nm] != 0) = true := bne_iff_ne.2 hr
  generalize refuse s true [nm] = r at *
  clear h hs hr
  go_enter Try.func15, Try.ntmps15
  go_wp2_with (first | ((with_reducible refine gate_dst (N := 9) rfl ?_); refine row_event2 ?hg (N := 9) ?hd (cs := #[.string (bs nm)]) (t := 9) (n := 1) (c := 1) ?hr ?_; (case hd => rfl); (case hg => rfl); (case hr => first | (go_simp; done) | (go_simp; rfl)); intro g1 hg w1 hbox hb; have GE1 := Aside0.mk (Nat.le_of_eq hg.symm); have BK1 := Aside0.mk hbox; have HX1 := Aside0.mk hb; clear hg hbox hb) | fail)
  refine (HR.out w1 _ _ HX1.out (text_row1 BK1.out)).mono ?_
  rintro e w2 ⟨rfl, hb⟩
  have HB := Aside0.mk (below_then HX1.out HX1.out.size hb)
  clear hb
  go_wp2_with fail
  go_ret2
  exact ⟨rfl, HB.out⟩
set_option maxRecDepth 100000 in
set_option maxHeartbeats 400000 in
theorem read_yes (w : World) (ok : Nat → Prop) (p : Nat) (s : DS) (nm : T) (h : DkAt w ok p s) (hs : Shorts [nm]) (hr : refuse s true [nm] = 0) (hfit : ((look s.fs nm).getD ([], 0)).1.length ≤ 140737488355328) :
    Calls Try.prog 15 #[.pointer (some ⟨p, 0, none⟩), .string (bs nm)] w fun e w' => ∃ v, e = .returned (.tuple #[v, .int .i64 0]) ∧ Kd.R (Kd.int .u8) 5 w' w.heap.size (fun _ => True) v ((look s.fs nm).getD ([], 0)).1 ∧ Below w.heap.size w w' := by
  obtain ⟨v, hl⟩ := refuse_there hr
  have HR := Aside0.mk (fun w' A c (hb : Below w.heap.size w w') (hC : text.C w' A 1 [nm]) => refused_calls w' ok p 1 c s true A [nm] (h.below hb) hC hs (by simp))
  rw [hr] at HR
  rw [hl] at hfit ⊢
  obtain ⟨mb, cl, ms, h⟩ := h
  obtain ⟨i, m, hi, rfl, rfl⟩ := h.find_of hl
  have HH := Aside0.mk h
  have HI := Aside0.mk hi
  have HFit := Aside0.mk hfit
  simp only [Option.getD_some]
  clear h hs hr hl hi hfit
  generalize hnm : m.name = nm at *
  have HNm := Aside0.mk hnm
  clear hnm
  go_enter Try.func15, Try.ntmps15
  go_wp2_with (first | ((with_reducible refine gate_dst (N := 9) rfl ?_); refine row_event2 ?hg (N := 9) ?hd (cs := #[.string (bs nm)]) (t := 9) (n := 1) (c := 1) ?hr ?_; (case hd => rfl); (case hg => rfl); (case hr => first | (go_simp; done) | (go_simp; rfl)); intro g1 hg w1 hbox hb; have GE1 := Aside0.mk (Nat.le_of_eq hg.symm); have BK1 := Aside0.mk hbox; have HX1 := Aside0.mk hb; clear hg hbox hb) | fail)
  refine (HR.out w1 _ _ HX1.out (text_row1 BK1.out)).mono ?_
  rintro e w2 ⟨rfl, hb⟩
  have HB := Aside0.mk (below_then HX1.out HX1.out.size hb)
  clear hb
  have h2 := HH.out.below HB.out
  obtain ⟨⟨c0, c1, c2, c3, c4⟩, f1, f2, f3, f4⟩ := h2.cells
  have hlk := h2.run_yes HI.out
  rw [HNm.out] at hlk
  have hf := h2.files m (List.mem_of_getElem? HI.out)
  have d0 : w2.cell? ⟨m.q, 0, none⟩ = some (.slice m.A m.bytes.length m.c) := (blk_cell hf.blk 0).trans rfl
  have HC := Aside0.mk (clone_bytes m.bytes m.bytes.length m.A m.c w2 hf.row.reads (by rw [Nat.mul_one]; exact HFit.out))
  clear h2 hf c1 c2 c3 c4 f1 f2 f3 f4
  go_wp2_with fail
  refine HC.out.mono ?_
  rintro e w3 ⟨v3, rfl, hr, hb⟩
  have HR3 := Aside0.mk hr
  have HB3 := Aside0.mk hb
  clear hr hb c0 hlk d0
  go_wp2_with fail
  go_ret2
  exact ⟨v3, rfl, Kd.R_lower HR3.out HB.out.size, below_then HB.out HB.out.size HB3.out⟩
end Go.Proofs.Ytabomfmjepmkjaa.Dk
end

section
namespace Go.Proofs.Ytabomfmjepmkjaa.Dk
set_option linter.unusedVariables false
set_option linter.unusedSimpArgs false
open Go.RowKit Go.Proofs.YtabomfmjepmkjaaW.PrintWords Go.Proofs.YtabomfmjepmkjaaW.PrintLast Go.Proofs.YtabomfmjepmkjaaW.PrintMore Go.Proofs.Ytabomfmjepmkjaa.Lib Go.Proofs.Ytabomfmjepmkjaa.Mem Go.Proofs.Ytabomfmjepmkjaa.Txt
open Go.MapKept Go.ChangeMaps
theorem done_calls (w : World) (ok : Nat → Prop) (p : Nat) (s : DS) (f : FuncId) (cap : Array Value) (g : DS → DS) (h : DkAt w ok p s) (ho : ops62 s) (hf : Fun f)
    (hdo : ∀ w1, (∀ mb cl ms, DkMs w ok p s mb cl ms → DkMs w1 ok p { s with ops := s.ops + 1 } mb cl ms) → Only (fun k => k = p) w w1 → Calls Try.prog f (#[] ++ #[] ++ cap) w1 fun e w2 => e = .returned (.tuple #[]) ∧ DkAt w2 ok p (g { s with ops := s.ops + 1 }) ∧ Only ok w1 w2) :
    Calls Try.prog 32 #[.pointer (some ⟨p, 0, none⟩), .func (.func f) #[] cap] w fun e w' => e = .returned (.int .i64 (doneS s g).2) ∧ DkAt w' ok p (doneS s g).1 ∧ Only ok w w' := by
  have hokp : ok p := by obtain ⟨mb, cl, ms, h⟩ := h; exact h.okp
  by_cases he : s.ops = s.cutAt
  · have e : doneS s g = (DS.cut { s with ops := s.ops + 1 } s.part, 122) := if_pos he
    rw [e]
    exact done_cut w ok p s _ h ho he
  · have e : doneS s g = (g { s with ops := s.ops + 1 }, 0) := if_neg he
    rw [e]
    refine (done_do w ok p s f cap (fun w2 => DkAt w2 ok p (g { s with ops := s.ops + 1 }) ∧ Only ok w w2) h ho he hf (fun w1 h1 h2 => (hdo w1 h1 h2).mono fun e w2 hh => ⟨hh.1, hh.2.1, ?_⟩)).mono fun e w' hh => ⟨hh.1, hh.2.1, hh.2.2⟩
    exact (h2.mono (fun k hk => by rw [hk]; exact hokp)).trans hh.2.2 (fun k hk => .inl hk)
section
variable {ops : Array Oper} {o : Oper} {a : Act} {Q : Exit → Act → World → Prop}
theorem append_event {rest : List Oper} {W : World} (hgd : o.guard = none) {sx x : Operand} (hop : o.op = .call { callee := .builtin .append, args := #[sx, x], argTypes := #[22, 22] }) {ok : Nat → Prop} {A B : Option Addr} {n c m d : Nat} {xs ys : List Int}
    (hs : a.eval sx = .slice A n c) (hx : a.eval x = .slice B m d) (h : OwnB W ok A n c xs) (hC : Kd.C (Kd.int .u8) W B m ys) (hfit : n + m ≤ 140737488355328)
    (hK : ∀ A' c' w', OwnB w' (okx ok W w') A' (n + m) c' (xs ++ ys) → Only (fun k => ∃ a, A = some a ∧ k = a.block) W w' → (∀ a, A' = some a → A = A' ∨ W.heap.size ≤ a.block) → wpList Try.prog ops Q rest (a.put o.dst (.slice A' (n + m) c')) w') : wpList Try.prog ops Q (o :: rest) a W := by
  obtain ⟨A', c', w', hrun, h1, h2, h3⟩ := append_own (d := d) o.type h hC hfit
  exact Kd.event_run hgd (v := .slice A' (n + m) c') (w1 := w') (by simp [execOp, hop, resolve, invoke, builtin, hs, hx, hrun, Result.andThen]) (hK A' c' w' h1 h2 h3)
end
theorem C_cells {w w' : World} {A : Option Addr} {n : Nat} {xs : List Int} (h : Kd.C (Kd.int .u8) w A n xs) (hc : ∀ a, w'.cell? a = w.cell? a) : Kd.C (Kd.int .u8) w' A n xs := by
  obtain ⟨h1, h2, h3⟩ := h
  refine ⟨h1, h2, fun h0 => ?_⟩
  obtain ⟨ad, e, hk⟩ := h3 h0
  refine ⟨ad, e, fun j p hp => ?_⟩
  obtain ⟨c, hl, hK, hcc⟩ := hk j p hp
  exact ⟨c, hl, hK, fun i u hu => (hc _).trans (hcc i u hu)⟩
theorem cell_setMap {w : World} {r : Nat} {es es' : Array MapEntry} {cl cl' : Nat} (h : w.heap[r]? = some (.map es cl)) (a : Addr) : (setBlock w r (.map es' cl')).cell? a = w.cell? a := by
  unfold World.cell?
  by_cases e : a.block = r
  · rw [e, set_heap w r _ (blk_lt h), h]
  · rw [set_other w r _ _ e]
theorem DkMs.appended {w w4 : World} {ok : Nat → Prop} {p mb cl : Nat} {s : DS} {ms : List FM} {m : FM} {i : Nat} {A' : Option Addr} {c' k : Nat} {b : List Int} (h : DkMs w ok p s mb cl ms) (hi : ms[i]? = some m)
    (hr : OwnB w4 (okx ok w w4) A' (m.bytes.length + k) c' (m.bytes ++ b)) (ho : Only (fun j => ∃ a, m.A = some a ∧ j = a.block) w w4) (hA : ∀ a, A' = some a → m.A = A' ∨ w.heap.size ≤ a.block) :
    DkMs (w4.setCell ⟨m.q, 0, none⟩ (.slice A' (m.bytes.length + k) c')) (okx ok w w4) p { s with fs := s.fs.set i (m.name, m.bytes ++ b, m.syn) } mb cl (ms.set i { m with A := A', c := c', bytes := m.bytes ++ b }) := by
  have hm : m ∈ ms := List.mem_of_getElem? hi
  have hf := h.files m hm
  have hl : (m.bytes ++ b).length = m.bytes.length + k := hr.len
  have hk : b.length = k := by rw [List.length_append] at hl; omega
  have hsz : (w4.setCell ⟨m.q, 0, none⟩ (.slice A' (m.bytes.length + k) c')).heap.size = w4.heap.size := by simp [World.setCell]
  have hqA : ∀ a, A' = some a → m.q ≠ a.block := fun a ha => by
    rcases hA a ha with e | e
    · exact h.q_A hm hm a (e.trans ha)
    · have := blk_lt hf.blk; omega
  have hq4 : w4.heap[m.q]? = some (.cells #[.slice m.A m.bytes.length m.c, .int .i64 m.syn] 68 (0, 0)) := (ho.block m.q (blk_lt hf.blk) (fun ⟨a, ha, e⟩ => h.q_A hm hm a ha e)).trans hf.blk
  have hF : FAt (w4.setCell ⟨m.q, 0, none⟩ (.slice A' (m.bytes.length + k) c')) (okx ok w w4) { m with A := A', c := c', bytes := m.bytes ++ b } := by
    refine ⟨.inl hf.okq, ?_, ?_, ?_⟩
    · show (w4.setCell ⟨m.q, 0, none⟩ (.slice A' (m.bytes.length + k) c')).heap[m.q]? = some (.cells #[.slice A' (m.bytes ++ b).length c', .int .i64 m.syn] _ _)
      rw [hl]
      exact blk_set hq4 0 _
    · show OwnB _ _ A' (m.bytes ++ b).length c' (m.bytes ++ b)
      rw [hl]
      exact hr.move (fun a ha => Below.heap_setCell w4 ⟨m.q, 0, none⟩ _ _ (Ne.symm (hqA a ha)))
    · show m.syn ≤ (m.bytes ++ b).length
      have := hf.syn
      omega
  have := h.at_file (m' := { m with A := A', c := c', bytes := m.bytes ++ b }) hi ((ho.mono (fun j hj => .inr hj)).set 0 (.inl (.inl rfl)) (.slice A' (m.bytes.length + k) c')) (hF.step rfl (fun _ _ => rfl) (fun j hj => hj.imp id (fun h2 => by rw [hsz]; exact h2))) rfl rfl rfl (fun a ha => hA a ha)
  exact this.mono (fun j hj => hj.imp id (fun h2 => by rw [hsz] at h2; exact h2))
theorem fun_append : Fun 33 := ⟨_, Try.func33, rfl, rfl⟩
set_option maxRecDepth 100000 in
set_option maxHeartbeats 400000 in
theorem append1_calls (w : World) : Calls Try.prog 33 #[] w fun e w' => e = .returned (.tuple #[]) ∧ w' = w := by
  go_enter Try.func33, Try.ntmps33
  go_wp2_with fail
  go_end0
  exact ⟨rfl, rfl⟩
theorem done_append (w : World) (ok : Nat → Prop) (p : Nat) (s : DS) (h : DkAt w ok p s) (ho : ops62 s) :
    Calls Try.prog 32 #[.pointer (some ⟨p, 0, none⟩), .func (.func 33) #[] #[]] w fun e w' => e = .returned (.int .i64 (doneS s id).2) ∧ DkAt w' ok p (doneS s id).1 ∧ Only ok w w' :=
  done_calls w ok p s _ _ id h ho fun_append (fun w1 h1 h2 => (append1_calls w1).mono fun e w2 hh => ⟨hh.1, by rw [hh.2]; obtain ⟨mb, cl, ms, h⟩ := h; exact ⟨mb, cl, ms, h1 _ _ _ h⟩, by rw [hh.2]; exact Only.refl _ _⟩)
end Go.Proofs.Ytabomfmjepmkjaa.Dk
end

section
namespace Go.Proofs.Ytabomfmjepmkjaa.Dk
set_option linter.unusedVariables false
set_option linter.unusedSimpArgs false
open Go.RowKit Go.Proofs.YtabomfmjepmkjaaW.PrintWords Go.Proofs.YtabomfmjepmkjaaW.PrintLast Go.Proofs.YtabomfmjepmkjaaW.PrintMore Go.Proofs.Ytabomfmjepmkjaa.Lib Go.Proofs.Ytabomfmjepmkjaa.Mem Go.Proofs.Ytabomfmjepmkjaa.Txt
open Go.MapKept Go.ChangeMaps
theorem finish {w w5 w6 : World} {ok : Nat → Prop} {p : Nat} {S : DS} (h5 : Only ok w w5) (h6 : DkAt w6 (okx ok w w5) p S) (ho6 : Only (okx ok w w5) w5 w6) : DkAt w6 (okx ok w w6) p S ∧ Only ok w w6 :=
  ⟨h6.mono (fun _ hk => okx.grow ho6.size hk), h5.trans ho6 (fun k hk => hk.imp id (fun h => h.1))⟩
set_option maxRecDepth 100000 in
set_option maxHeartbeats 400000 in
theorem append_no (w : World) (ok : Nat → Prop) (p : Nat) (s : DS) (nm : T) (bv : Value) (h : DkAt w ok p s) (hs : Shorts [nm]) (hr : refuse s false [nm] ≠ 0) :
    Calls Try.prog 12 #[.pointer (some ⟨p, 0, none⟩), .string (bs nm), bv] w fun e w' => e = .returned (.int .i64 (refuse s false [nm])) ∧ Below w.heap.size w w' := by
  have HR := Aside0.mk (fun w' A c (hb : Below w.heap.size w w') (hC : text.C w' A 1 [nm]) => refused_calls w' ok p 1 c s false A [nm] (h.below hb) hC hs (by simp))
  have hb0 : (refuse s false [nm] == 0) = false := beq_eq_false_iff_ne.2 hr
  have hne : (refuse s false [nm] != 0) = true := bne_iff_ne.2 hr
  generalize refuse s false [nm] = r at *
  clear h hs hr
  go_enter Try.func12, Try.ntmps12
  go_wp2_with (first | ((with_reducible refine gate_dst (N := 11) rfl ?_); refine row_event2 ?hg (N := 11) ?hd (cs := #[.string (bs nm)]) (t := 9) (n := 1) (c := 1) ?hr ?_; (case hd => rfl); (case hg => rfl); (case hr => first | (go_simp; done) | (go_simp; rfl)); intro g1 hg w1 hbox hb; have GE1 := Aside0.mk (Nat.le_of_eq hg.symm); have BK1 := Aside0.mk hbox; have HX1 := Aside0.mk hb; clear hg hbox hb) | fail)
  refine (HR.out w1 _ _ HX1.out (text_row1 BK1.out)).mono ?_
  rintro e w2 ⟨rfl, hb⟩
  have HB := Aside0.mk (below_then HX1.out HX1.out.size hb)
  clear hb
  go_wp2_with fail
  go_ret
  exact ⟨rfl, HB.out⟩
set_option maxRecDepth 100000 in
set_option maxHeartbeats 400000 in
theorem append_full (w : World) (ok : Nat → Prop) (p : Nat) (s : DS) (nm : T) (bv : Value) (h : DkAt w ok p s) (hs : Shorts [nm]) (hr : refuse s false [nm] = 0) (hl : look s.fs nm = none) (hfull : 1000 ≤ s.fs.length) :
    Calls Try.prog 12 #[.pointer (some ⟨p, 0, none⟩), .string (bs nm), bv] w fun e w' => e = .returned (.int .i64 1) ∧ Below w.heap.size w w' := by
  have HR := Aside0.mk (fun w' A c (hb : Below w.heap.size w w') (hC : text.C w' A 1 [nm]) => refused_calls w' ok p 1 c s false A [nm] (h.below hb) hC hs (by simp))
  rw [hr] at HR
  obtain ⟨mb, cl, ms, h⟩ := h
  have hnone : ∀ m ∈ ms, m.name ≠ nm := by
    rcases find_cases ms nm with hf | ⟨i, m, hi, rfl⟩
    · exact hf
    · rw [h.look_yes hi] at hl; cases hl
  have HH := Aside0.mk h
  have HNo := Aside0.mk hnone
  have hge : (s.fs.length : Int) ≥ 1000 := by omega
  clear h hs hr hl hnone hfull
  go_enter Try.func12, Try.ntmps12
  go_wp2_with (first | ((with_reducible refine gate_dst (N := 11) rfl ?_); refine row_event2 ?hg (N := 11) ?hd (cs := #[.string (bs nm)]) (t := 9) (n := 1) (c := 1) ?hr ?_; (case hd => rfl); (case hg => rfl); (case hr => first | (go_simp; done) | (go_simp; rfl)); intro g1 hg w1 hbox hb; have GE1 := Aside0.mk (Nat.le_of_eq hg.symm); have BK1 := Aside0.mk hbox; have HX1 := Aside0.mk hb; clear hg hbox hb) | fail)
  refine (HR.out w1 _ _ HX1.out (text_row1 BK1.out)).mono ?_
  rintro e w2 ⟨rfl, hb⟩
  have HB := Aside0.mk (below_then HX1.out HX1.out.size hb)
  clear hb
  have h2 := HH.out.below HB.out
  obtain ⟨⟨c0, c1, c2, c3, c4⟩, f1, f2, f3, f4⟩ := h2.cells
  have hlk := h2.run_no HNo.out
  have hln := fun ty => h2.run_len ty
  clear h2 c1 c2 c3 c4 f1 f2 f3 f4
  generalize s.fs.length = n at *
  go_wp2_with fail
  go_ret
  exact ⟨rfl, HB.out⟩
set_option maxRecDepth 100000 in
set_option maxHeartbeats 1600000 in
theorem append_old (w : World) (ok : Nat → Prop) (p mB d : Nat) (s : DS) (nm : T) (B : Option Addr) (b : List Int) (v : Fv) (h : DkAt w ok p s) (hs : Shorts [nm]) (hr : refuse s false [nm] = 0) (hl : look s.fs nm = some v) (ho : ops62 s) (hC : Kd.C (Kd.int .u8) w B mB b) (hfit : v.1.length + mB ≤ 140737488355328) :
    Calls Try.prog 12 #[.pointer (some ⟨p, 0, none⟩), .string (bs nm), .slice B mB d] w fun e w' => e = .returned (.int .i64 (doneS { s with fs := putF s.fs nm (v.1 ++ b, v.2) } id).2) ∧ DkAt w' (okx ok w w') p (doneS { s with fs := putF s.fs nm (v.1 ++ b, v.2) } id).1 ∧ Only ok w w' := by
  have HR := Aside0.mk (fun w' A c (hb : Below w.heap.size w w') (hC : text.C w' A 1 [nm]) => refused_calls w' ok p 1 c s false A [nm] (h.below hb) hC hs (by simp))
  rw [hr] at HR
  obtain ⟨mb, cl, ms, h⟩ := h
  obtain ⟨i, m, hi, rfl, rfl⟩ := h.find_of hl
  rw [h.put_yes hi]
  have HH := Aside0.mk h
  have HI := Aside0.mk hi
  have HFit := Aside0.mk hfit
  have HC := Aside0.mk hC
  have HOp := Aside0.mk ho
  generalize hs2 : ({ s with fs := s.fs.set i (m.name, (m.bytes, m.syn).1 ++ b, (m.bytes, m.syn).2) } : DS) = s2
  have HS2 := Aside0.mk hs2
  clear h hs hr hl hi hfit hC ho hs2
  generalize hnm : m.name = nm at *
  have HNm := Aside0.mk hnm
  clear hnm
  go_enter Try.func12, Try.ntmps12
  go_wp2_with (first | ((with_reducible refine gate_dst (N := 11) rfl ?_); refine row_event2 ?hg (N := 11) ?hd (cs := #[.string (bs nm)]) (t := 9) (n := 1) (c := 1) ?hr ?_; (case hd => rfl); (case hg => rfl); (case hr => first | (go_simp; done) | (go_simp; rfl)); intro g1 hg w1 hbox hb; have GE1 := Aside0.mk (Nat.le_of_eq hg.symm); have BK1 := Aside0.mk hbox; have HX1 := Aside0.mk hb; clear hg hbox hb) | fail)
  refine (HR.out w1 _ _ HX1.out (text_row1 BK1.out)).mono ?_
  rintro e w2 ⟨rfl, hb⟩
  have HB := Aside0.mk (below_then HX1.out HX1.out.size hb)
  clear hb
  have h2 := HH.out.below HB.out
  have H2 := Aside0.mk h2
  obtain ⟨⟨c0, c1, c2, c3, c4⟩, f1, f2, f3, f4⟩ := h2.cells
  have hlk := h2.run_yes HI.out
  rw [HNm.out] at hlk
  have hf := h2.files m (List.mem_of_getElem? HI.out)
  have d0 : w2.cell? ⟨m.q, 0, none⟩ = some (.slice m.A m.bytes.length m.c) := (blk_cell hf.blk 0).trans rfl
  have HF := Aside0.mk hf
  have HCb := Aside0.mk (Kd.C_below HC.out HB.out)
  clear h2 hf c1 c2 c3 c4 f1 f2 f3 f4
  generalize hq : m.q = q at d0 hlk
  have HQ := Aside0.mk hq
  clear hq
  go_wp2_with (first
    | ((with_reducible refine gate_builtin (b := .append) (xs := #[.tmp 42, .tmp 43]) rfl ?_); refine append_event rfl rfl rfl rfl HF.out.row HCb.out HFit.out ?_; intro A4 c4 w4 hr4 ho4 hA4; have HR4 := Aside0.mk hr4; have HO4 := Aside0.mk ho4; have HA4 := Aside0.mk hA4; have g0 : w4.frozen? ⟨q, 0, none⟩ = false := (blk_frozen (by have hb := HF.out.blk; rw [HQ.out] at hb; exact (ho4.block q (blk_lt hb) (fun ⟨a, ha, e⟩ => by have := H2.out.q_A (List.mem_of_getElem? HI.out) (List.mem_of_getElem? HI.out) a ha; rw [HQ.out] at this; exact this e)).trans hb) 0); have g1 : w4.cell? ⟨q, 0, none⟩ = some (.slice m.A m.bytes.length m.c) := (blk_cell (by have hb := HF.out.blk; rw [HQ.out] at hb; exact (ho4.block q (blk_lt hb) (fun ⟨a, ha, e⟩ => by have := H2.out.q_A (List.mem_of_getElem? HI.out) (List.mem_of_getElem? HI.out) a ha; rw [HQ.out] at this; exact this e)).trans hb) 0).trans rfl; clear hr4 ho4 hA4 c0 d0 hlk)
    | fail)
  have h5 := H2.out.appended HI.out HR4.out HO4.out HA4.out
  rw [HQ.out, HNm.out] at h5
  have e5 : ({ s with fs := s.fs.set i (nm, m.bytes ++ b, m.syn) } : DS) = s2 := HS2.out
  rw [e5] at h5
  have hokq : ok q := by rw [← HQ.out]; exact HF.out.okq
  have hO5 : Only ok w (w4.setCell ⟨q, 0, none⟩ (.slice A4 (m.bytes.length + mB) c4)) := ((Only.of_below (ok := ok) HB.out).trans (HO4.out.mono (ok' := ok) (fun k ⟨a, ha, e⟩ => by rw [e]; exact (HF.out.ltA a ha).2)) (fun k hk => .inl hk)).set 0 (.inl hokq) _
  have hsz5 : (w4.setCell ⟨q, 0, none⟩ (.slice A4 (m.bytes.length + mB) c4)).heap.size = w4.heap.size := by simp [World.setCell]
  have H5 := Aside0.mk (h5.mono (ok' := okx ok w (w4.setCell ⟨q, 0, none⟩ (.slice A4 (m.bytes.length + mB) c4))) (fun k hk => hk.imp id (fun h => ⟨Nat.le_trans HB.out.size h.1, by rw [hsz5]; exact h.2⟩)))
  have HO5 := Aside0.mk hO5
  clear h5 e5 hokq hO5 hsz5 g0 g1
  generalize w4.setCell ⟨q, 0, none⟩ (.slice A4 (m.bytes.length + mB) c4) = w5 at *
  have hop2 : ops62 s2 := by rw [← HS2.out]; exact HOp.out
  refine (done_append w5 _ p s2 ⟨mb, cl, _, H5.out⟩ hop2).mono ?_
  rintro e w6 ⟨rfl, h6, ho6⟩
  have HF6 := Aside0.mk (finish HO5.out h6 ho6)
  clear h6 ho6 hop2
  go_wp2_with fail
  go_ret
  exact ⟨rfl, HF6.out⟩
set_option maxRecDepth 100000 in
set_option maxHeartbeats 1600000 in
theorem append_new (w : World) (ok : Nat → Prop) (p mB d : Nat) (s : DS) (nm : T) (B : Option Addr) (b : List Int) (h : DkAt w ok p s) (hs : Shorts [nm]) (hr : refuse s false [nm] = 0) (hl : look s.fs nm = none) (hroom : s.fs.length < 1000) (ho : ops62 s) (hC : Kd.C (Kd.int .u8) w B mB b) (hfit : mB ≤ 140737488355328) :
    Calls Try.prog 12 #[.pointer (some ⟨p, 0, none⟩), .string (bs nm), .slice B mB d] w fun e w' => e = .returned (.int .i64 (doneS { s with fs := putF s.fs nm (b, 0) } id).2) ∧ DkAt w' (okx ok w w') p (doneS { s with fs := putF s.fs nm (b, 0) } id).1 ∧ Only ok w w' := by
  have HR := Aside0.mk (fun w' A c (hb : Below w.heap.size w w') (hC : text.C w' A 1 [nm]) => refused_calls w' ok p 1 c s false A [nm] (h.below hb) hC hs (by simp))
  rw [hr] at HR
  obtain ⟨mb, cl, ms, h⟩ := h
  have hnone : ∀ m ∈ ms, m.name ≠ nm := by
    rcases find_cases ms nm with hf | ⟨i, m, hi, rfl⟩
    · exact hf
    · rw [h.look_yes hi] at hl; cases hl
  rw [h.put_no hnone]
  have HH := Aside0.mk h
  have HNo := Aside0.mk hnone
  have HFit := Aside0.mk hfit
  have HC := Aside0.mk hC
  have HOp := Aside0.mk ho
  have hlt : ¬ (s.fs.length : Int) ≥ 1000 := by omega
  generalize hs2 : ({ s with fs := s.fs ++ [(nm, b, 0)] } : DS) = s2
  have HS2 := Aside0.mk hs2
  clear h hs hr hl hfit hC ho hs2 hnone hroom
  generalize hfl : s.fs.length = fl at *
  have HFl := Aside0.mk hfl
  clear hfl
  go_enter Try.func12, Try.ntmps12
  go_wp2_with (first | ((with_reducible refine gate_dst (N := 11) rfl ?_); refine row_event2 ?hg (N := 11) ?hd (cs := #[.string (bs nm)]) (t := 9) (n := 1) (c := 1) ?hr ?_; (case hd => rfl); (case hg => rfl); (case hr => first | (go_simp; done) | (go_simp; rfl)); intro g1 hg w1 hbox hb; have GE1 := Aside0.mk (Nat.le_of_eq hg.symm); have BK1 := Aside0.mk hbox; have HX1 := Aside0.mk hb; clear hg hbox hb) | fail)
  refine (HR.out w1 _ _ HX1.out (text_row1 BK1.out)).mono ?_
  rintro e w2 ⟨rfl, hb⟩
  have HB := Aside0.mk (below_then HX1.out HX1.out.size hb)
  clear hb
  have h2 := HH.out.below HB.out
  have H2 := Aside0.mk h2
  obtain ⟨⟨c0, c1, c2, c3, c4⟩, f1, f2, f3, f4⟩ := h2.cells
  have hlk := h2.run_no HNo.out
  have hln := fun ty => h2.run_len ty
  rw [HFl.out] at hln
  clear h2 c1 c2 c3 c4 f1 f2 f3 f4
  go_wp2_with (first
    | (((with_reducible refine gate_dst (N := 31) rfl ?_); refine box_event ?hg (N := 31) ?hd (cs := #[.slice none 0 0, .int .i64 0]) (t := 68) ?hr ?_; (case hd => rfl); (case hg => rfl); (case hr => first | (go_simp; done) | (go_simp; rfl)); intro g3 hg w3 hbox hb; have GE3 := Aside0.mk (Nat.le_of_eq hg.symm); have BK3 := Aside0.mk hbox; have HX3 := Aside0.mk hb; clear hg hbox hb); have d0 : w3.cell? ⟨p, 0, none⟩ = some (.map (some mb)) := (blk_cell (blk_below H2.out.blk HX3.out) 0).trans rfl; clear c0)
    | (at_mapUpdate; refine update_event rfl rfl rfl rfl rfl ((H2.out.below HX3.out).run_push HNo.out (.pointer (some ⟨g3, 0, none⟩))) ?_; intro w4 hw4; have HW4 := Aside0.mk hw4; have g0 : w4.cell? ⟨g3, 0, none⟩ = some (.slice none 0 0) := (congrArg (fun x => World.cell? x ⟨g3, 0, none⟩) hw4).trans ((cell_setMap (H2.out.below HX3.out).mblk _).trans ((blk_cell BK3.out 0).trans rfl)); clear hw4 d0 hln hlk)
    | ((with_reducible refine gate_builtin (b := .append) (xs := #[.tmp 42, .tmp 43]) rfl ?_); refine append_event rfl rfl rfl rfl (OwnB.nil w4 (fun k => k = g3)) (show Kd.C (Kd.int .u8) w4 B mB b by rw [HW4.out]; exact C_cells (Kd.C_below (Kd.C_below HC.out HB.out) HX3.out) (cell_setMap (H2.out.below HX3.out).mblk)) (by rw [Nat.zero_add]; exact HFit.out) ?_; rw [Nat.zero_add, List.nil_append]; intro A5 c5 w5 hr5 ho5 hA5; have HR5 := Aside0.mk hr5; have HO5 := Aside0.mk ho5; have HA5 := Aside0.mk hA5; have e0 : w5.cell? ⟨g3, 0, none⟩ = some (.slice none 0 0) := (World.cell?_of_block (a := ⟨g3, 0, none⟩) (ho5.block g3 (by rw [HW4.out, set_size]; exact blk_lt BK3.out) (fun ⟨a, ha, _⟩ => by cases ha))).trans g0; have e1 : w5.frozen? ⟨g3, 0, none⟩ = false := (World.frozen?_of_block (a := ⟨g3, 0, none⟩) (ho5.block g3 (by rw [HW4.out, set_size]; exact blk_lt BK3.out) (fun ⟨a, ha, _⟩ => by cases ha))).trans (by rw [HW4.out]; exact (World.frozen?_of_block (a := ⟨g3, 0, none⟩) (set_other w3 mb g3 _ (ne_kind BK3.out (H2.out.below HX3.out).mblk (fun e => by cases e)))).trans (blk_frozen BK3.out 0)); clear hr5 ho5 hA5 g0)
    | fail)
  have h3 : DkMs w3 (okx ok w2 w3) p s mb cl ms := (H2.out.below HX3.out).mono (fun _ hk => .inl hk)
  have hF : FAt w3 (okx ok w2 w3) ⟨nm, cl, g3, none, 0, [], 0⟩ := ⟨.inr ⟨GE3.out, blk_lt BK3.out⟩, BK3.out, OwnB.nil _ _, Nat.le_refl _⟩
  have h4 := h3.push hF rfl (fun x hx => ⟨fun e => by
    have h1 := blk_lt (H2.out.files x hx).blk
    have h2 := GE3.out
    have e2 : x.q = g3 := e
    omega, fun a b _ hb => by cases hb⟩) (fun x hx => HNo.out x hx)
  have hw4 : setBlock w3 mb (.map ((ms.map ent).toArray.push (ent ⟨nm, cl, g3, none, 0, [], 0⟩)) (cl + 1)) = w4 := HW4.out.symm
  rw [hw4] at h4
  have hsz4 : w4.heap.size = w3.heap.size := by rw [← hw4, set_size]
  have h5 := h4.appended (w4 := w5) (i := ms.length) (m := ⟨nm, cl, g3, none, 0, [], 0⟩) (A' := A5) (c' := c5) (k := mB) (b := b) (by simp) (by
    have := HR5.out.mono (ok' := okx (okx ok w2 w3) w4 w5) (fun k hk => hk.imp (fun e => by have e2 : k = g3 := e; rw [e2]; exact .inr ⟨GE3.out, blk_lt BK3.out⟩) id)
    simpa using this) (HO5.out.mono (fun k ⟨a, ha, _⟩ => by cases ha)) HA5.out
  have hset : (s.fs ++ [(nm, [], 0)]).set ms.length (nm, b, 0) = s.fs ++ [(nm, b, 0)] := by
    have hlen : ms.length = s.fs.length := by rw [← HH.out.abs, List.length_map]
    rw [hlen, List.set_append_right _ _ (Nat.le_refl _), Nat.sub_self]
    rfl
  simp only [List.length_nil, Nat.zero_add, List.nil_append] at h5
  have e5 : ({ s with fs := (s.fs ++ [FM.abs ⟨nm, cl, g3, none, 0, [], 0⟩]).set ms.length (nm, b, 0) } : DS) = s2 := by
    show ({ s with fs := (s.fs ++ [(nm, [], 0)]).set ms.length (nm, b, 0) } : DS) = s2
    rw [hset]; exact HS2.out
  rw [e5] at h5
  have hO4 : Only ok w w4 := by
    rw [← hw4]
    exact (Only.of_below (ok := ok) (below_then HB.out HB.out.size HX3.out)).setBlock (.inl H2.out.okm) _
  have hO5 : Only ok w (w5.setCell ⟨g3, 0, none⟩ (.slice A5 mB c5)) := (hO4.trans (ok' := fun _ => False) (HO5.out.mono (fun k ⟨a, ha, _⟩ => by cases ha)) (fun _ h => h.elim)).set 0 (.inr (Nat.le_trans HB.out.size GE3.out)) _
  have hsz5 : (w5.setCell ⟨g3, 0, none⟩ (.slice A5 mB c5)).heap.size = w5.heap.size := by simp [World.setCell]
  have hle1 := HB.out.size
  have hle2 := HX3.out.size
  have hle3 := HO5.out.size
  have H5 := Aside0.mk (h5.mono (ok' := okx ok w (w5.setCell ⟨g3, 0, none⟩ (.slice A5 mB c5))) (fun k hk => by
    rcases hk with (hk | hk) | hk
    · exact .inl hk
    · exact .inr ⟨by omega, by omega⟩
    · exact .inr ⟨by omega, by omega⟩))
  have HO6 := Aside0.mk hO5
  clear h3 hF h4 hw4 hsz4 h5 hset e5 hO4 hO5 hsz5 hle1 hle2 hle3 e0 e1
  generalize w5.setCell ⟨g3, 0, none⟩ (.slice A5 mB c5) = w6 at *
  have hop2 : ops62 s2 := by rw [← HS2.out]; exact HOp.out
  refine (done_append w6 _ p s2 ⟨mb, _, _, H5.out⟩ hop2).mono ?_
  rintro e w7 ⟨rfl, h7, ho7⟩
  have HF7 := Aside0.mk (finish HO6.out h7 ho7)
  clear h7 ho7 hop2
  go_wp2_with fail
  go_ret
  exact ⟨rfl, HF7.out⟩
theorem append_calls (w : World) (ok : Nat → Prop) (p mB d : Nat) (s : DS) (nm : T) (B : Option Addr) (b : List Int) (h : DkAt w ok p s) (hs : Shorts [nm]) (ho : ops62 s) (hC : Kd.C (Kd.int .u8) w B mB b) (hfit : ((look s.fs nm).getD ([], 0)).1.length + mB ≤ 140737488355328) :
    Calls Try.prog 12 #[.pointer (some ⟨p, 0, none⟩), .string (bs nm), .slice B mB d] w fun e w' => e = .returned (.int .i64 (appendS s nm b).2) ∧ DkAt w' (okx ok w w') p (appendS s nm b).1 ∧ Only ok w w' := by
  unfold appendS
  by_cases hr : refuse s false [nm] = 0
  · rw [if_neg (fun hh => hh hr)]
    cases hl : look s.fs nm with
    | some v =>
      rw [hl] at hfit
      exact append_old w ok p mB d s nm B b v h hs hr hl ho hC hfit
    | none =>
      rw [hl] at hfit
      simp only
      by_cases hf : 1000 ≤ s.fs.length
      · rw [if_pos hf]
        exact (append_full w ok p s nm _ h hs hr hl hf).mono fun e w' hh => ⟨hh.1, (h.below hh.2).mono (fun _ hk => .inl hk), Only.of_below hh.2⟩
      · rw [if_neg hf]
        exact append_new w ok p mB d s nm B b h hs hr hl (by omega) ho hC (by simpa using hfit)
  · rw [if_pos hr]
    exact (append_no w ok p s nm _ h hs hr).mono fun e w' hh => ⟨hh.1, (h.below hh.2).mono (fun _ hk => .inl hk), Only.of_below hh.2⟩
end Go.Proofs.Ytabomfmjepmkjaa.Dk
end

section
namespace Go.Proofs.Ytabomfmjepmkjaa.Dk
set_option linter.unusedVariables false
set_option linter.unusedSimpArgs false
open Go.RowKit Go.Proofs.YtabomfmjepmkjaaW.PrintWords Go.Proofs.YtabomfmjepmkjaaW.PrintLast Go.Proofs.YtabomfmjepmkjaaW.PrintMore Go.Proofs.Ytabomfmjepmkjaa.Lib Go.Proofs.Ytabomfmjepmkjaa.Mem Go.Proofs.Ytabomfmjepmkjaa.Txt
open Go.MapKept Go.ChangeMaps
theorem DkMs.synced {w w' : World} {ok : Nat → Prop} {p mb clock : Nat} {s : DS} {ms : List FM} {m : FM} (h : DkMs w ok p s mb clock ms) {i : Nat} (hi : ms[i]? = some m) (hw : w' = (w.setCell ⟨m.q, 1, none⟩ (.int .i64 (m.bytes.length : Int))).drew) :
    DkMs w' ok p { s with fs := s.fs.set i (m.name, m.bytes, m.bytes.length) } mb clock (ms.set i { m with syn := m.bytes.length }) ∧ Only ok w w' := by
  subst hw
  have hm : m ∈ ms := List.mem_of_getElem? hi
  have hf := h.files m hm
  have hsz : (w.setCell ⟨m.q, 1, none⟩ (.int .i64 (m.bytes.length : Int))).drew.heap.size = w.heap.size := by simp [World.setCell, World.drew]
  have hF : FAt ((w.setCell ⟨m.q, 1, none⟩ (.int .i64 (m.bytes.length : Int))).drew) ok { m with syn := m.bytes.length } :=
    ⟨hf.okq, blk_set hf.blk 1 _, hf.row.move (fun a ha => Below.heap_setCell w ⟨m.q, 1, none⟩ _ _ (Ne.symm (h.q_A hm hm a ha))), Nat.le_refl _⟩
  have := h.at_file (m' := { m with syn := m.bytes.length }) hi (((Only.refl (fun k => k = m.q ∨ ∃ a, m.A = some a ∧ k = a.block) w).set 1 (.inl (.inl rfl)) (.int .i64 (m.bytes.length : Int))).drew) (hF.step rfl (fun _ _ => rfl) (fun k hk => .inl hk)) rfl rfl rfl (fun a ha => .inl rfl)
  exact ⟨this.mono (fun k hk => hk.elim id (fun hk => by omega)), ((Only.refl ok w).set 1 (.inl hf.okq) _).drew⟩
set_option maxRecDepth 100000 in
set_option maxHeartbeats 400000 in
theorem sync1_calls (w : World) (ok : Nat → Prop) (p mb cl gb i : Nat) (s : DS) (ms : List FM) (m : FM) (h : DkMs w ok p s mb cl ms) (hi : ms[i]? = some m) (hg : w.heap[gb]? = some (.cells #[.pointer (some ⟨m.q, 0, none⟩)] 66 (0, 0))) :
    Calls Try.prog 45 #[.pointer (some ⟨gb, 0, none⟩)] w fun e w' => e = .returned (.tuple #[]) ∧ DkAt w' ok p { s with fs := s.fs.set i (m.name, m.bytes, m.bytes.length) } ∧ Only ok w w' := by
  have HH := Aside0.mk h
  have HI := Aside0.mk hi
  have hf := h.files m (List.mem_of_getElem? hi)
  have d0 : w.cell? ⟨m.q, 0, none⟩ = some (.slice m.A m.bytes.length m.c) := (blk_cell hf.blk 0).trans rfl
  have g1 := blk_frozen hf.blk 1
  have b0 : w.cell? ⟨gb, 0, none⟩ = some (.pointer (some ⟨m.q, 0, none⟩)) := (blk_cell hg 0).trans rfl
  have d1 : w.cell? ⟨m.q, 1, none⟩ = some (.int .i64 m.syn) := (blk_cell hf.blk 1).trans rfl
  clear h hi hf hg
  generalize hq : m.q = q at *
  have HQ := Aside0.mk hq
  clear hq
  go_enter Try.func45, Try.ntmps45
  go_wp2_with fail
  refine start_ (n := 9) (S := fun w' => w'.cell? ⟨gb, 0, none⟩ = some (.pointer (some ⟨q, 0, none⟩)) ∧ w'.cell? ⟨q, 0, none⟩ = some (.slice m.A m.bytes.length m.c) ∧ w'.cell? ⟨q, 1, none⟩ = some (.int .i64 m.syn) ∧ w'.frozen? ⟨q, 1, none⟩ = false) (ds := [8]) #[false, false, false, false, false, false, false, false, false] (by kernel_rfl) rfl rfl ⟨b0, d0, d1, g1⟩ (fun hHeld => ?_)
  refine take_ (i := 0) (N := some 1) (v := ?_) (a' := ?_) #[true, false, false, false, false, false, false, false, false] rfl rfl (by kernel_rfl) (fun _ _ _ h => h) (Or.inl ⟨by rfl, ?_⟩) hHeld ?_ ?_
  rotate_left
  · rintro w' ⟨s0, s1, s2, s3⟩
    go_simp
    with_reducible rfl
  rotate_left
  · simp only [Act.put, List.setIfInBounds_toArray, List.set_cons_zero, List.set_cons_succ, i64_w, i32_w]
    rfl
  refine take_ (i := 1) (N := some 2) (v := ?_) (a' := ?_) #[true, true, false, false, false, false, false, false, false] rfl rfl (by kernel_rfl) (fun _ _ _ h => h) (Or.inl ⟨by rfl, ?_⟩) hHeld ?_ ?_
  rotate_left
  · rintro w' ⟨s0, s1, s2, s3⟩
    go_simp
    with_reducible rfl
  rotate_left
  · simp only [Act.put, List.setIfInBounds_toArray, List.set_cons_zero, List.set_cons_succ, i64_w, i32_w]
    rfl
  refine pure_ (i := 2) (N := some 3) (v := ?_) (a' := ?_) #[true, true, true, false, false, false, false, false, false] rfl rfl (by kernel_rfl) (fun _ _ _ h => h) (Or.inl ⟨by rfl, ?_⟩) ?_ ?_
  rotate_left
  · intro w'
    go_simp
    with_reducible rfl
  rotate_left
  · simp only [Act.put, List.setIfInBounds_toArray, List.set_cons_zero, List.set_cons_succ, i64_w, i32_w]
    rfl
  refine pure_ (i := 3) (N := some 4) (v := ?_) (a' := ?_) #[true, true, true, true, false, false, false, false, false] rfl rfl (by kernel_rfl) (fun _ _ _ h => h) (Or.inl ⟨by rfl, ?_⟩) ?_ ?_
  rotate_left
  · intro w'
    go_simp
    with_reducible rfl
  rotate_left
  · simp only [Act.put, List.setIfInBounds_toArray, List.set_cons_zero, List.set_cons_succ, i64_w, i32_w]
    rfl
  refine take_ (i := 4) (N := some 5) (v := ?_) (a' := ?_) #[true, true, true, true, true, false, false, false, false] rfl rfl (by kernel_rfl) (fun _ _ _ h => h) (Or.inl ⟨by rfl, ?_⟩) hHeld ?_ ?_
  rotate_left
  · rintro w' ⟨s0, s1, s2, s3⟩
    go_simp
    with_reducible rfl
  rotate_left
  · simp only [Act.put, List.setIfInBounds_toArray, List.set_cons_zero, List.set_cons_succ, i64_w, i32_w]
    rfl
  refine pure_ (i := 5) (N := some 6) (v := ?_) (a' := ?_) #[true, true, true, true, true, true, false, false, false] rfl rfl (by kernel_rfl) (fun _ _ _ h => h) (Or.inl ⟨by rfl, ?_⟩) ?_ ?_
  rotate_left
  · intro w'
    go_simp
    with_reducible rfl
  rotate_left
  · simp only [Act.put, List.setIfInBounds_toArray, List.set_cons_zero, List.set_cons_succ, i64_w, i32_w]
    rfl
  refine pure_ (i := 6) (N := some 7) (v := ?_) (a' := ?_) #[true, true, true, true, true, true, true, false, false] rfl rfl (by kernel_rfl) (fun _ _ _ h => h) (Or.inl ⟨by rfl, ?_⟩) ?_ ?_
  rotate_left
  · intro w'
    go_simp
    with_reducible rfl
  rotate_left
  · simp only [Act.put, List.setIfInBounds_toArray, List.set_cons_zero, List.set_cons_succ, i64_w, i32_w]
    rfl
  refine pure_ (i := 7) (N := some 8) (v := ?_) (a' := ?_) #[true, true, true, true, true, true, true, true, false] rfl rfl (by kernel_rfl) (fun _ _ _ h => h) (Or.inl ⟨by rfl, ?_⟩) ?_ ?_
  rotate_left
  · intro w'
    go_simp
    with_reducible rfl
  rotate_left
  · simp only [Act.put, List.setIfInBounds_toArray, List.set_cons_zero, List.set_cons_succ, i64_w, i32_w]
    rfl
  refine last_ (i := 8) (N := none) #[true, true, true, true, true, true, true, true, true] rfl rfl (by kernel_rfl) (by decide) (fun K hK => ?_)
  refine skip_ (w1 := ?_) (by rfl) rfl ?_ ?_
  rotate_left
  · go_simp
    rfl
  refine hK.out _ _ ?_
  clear hK K
  refine done_ (by kernel_rfl) ?_
  go_wp2_with fail
  go_end0
  have := HH.out.synced HI.out (by rw [HQ.out] : (w.setCell ⟨q, 1, none⟩ (.int .i64 (m.bytes.length : Int))).drew = (w.setCell ⟨m.q, 1, none⟩ (.int .i64 (m.bytes.length : Int))).drew)
  exact ⟨rfl, ⟨_, _, _, this.1⟩, this.2⟩
theorem fun_sync : Fun 45 := ⟨_, Try.func45, rfl, rfl⟩
theorem syncF_is {w : World} {ok : Nat → Prop} {p mb clock : Nat} {s : DS} {ms : List FM} {m : FM} (h : DkMs w ok p s mb clock ms) {i : Nat} (hi : ms[i]? = some m) : syncF s.fs m.name = s.fs.set i (m.name, m.bytes, m.bytes.length) := by
  unfold syncF
  rw [h.look_yes hi]
  exact h.put_yes hi _
set_option maxRecDepth 100000 in
set_option maxHeartbeats 400000 in
theorem sync_no (w : World) (ok : Nat → Prop) (p : Nat) (s : DS) (nm : T) (h : DkAt w ok p s) (hs : Shorts [nm]) (hr : refuse s true [nm] ≠ 0) :
    Calls Try.prog 26 #[.pointer (some ⟨p, 0, none⟩), .string (bs nm)] w fun e w' => e = .returned (.int .i64 (refuse s true [nm])) ∧ Below w.heap.size w w' := by
  have HR := Aside0.mk (fun w' A c (hb : Below w.heap.size w w') (hC : text.C w' A 1 [nm]) => refused_calls w' ok p 1 c s true A [nm] (h.below hb) hC hs (by simp))
  have hb0 : (refuse s true [nm] == 0) = false := beq_eq_false_iff_ne.2 hr
  have hne : (refuse s true [nm] != 0) = true := bne_iff_ne.2 hr
  generalize refuse s true [nm] = r at *
  clear h hs hr
  go_enter Try.func26, Try.ntmps26
  go_wp2_with (first | ((with_reducible refine gate_dst (N := 9) rfl ?_); refine row_event2 ?hg (N := 9) ?hd (cs := #[.string (bs nm)]) (t := 9) (n := 1) (c := 1) ?hr ?_; (case hd => rfl); (case hg => rfl); (case hr => first | (go_simp; done) | (go_simp; rfl)); intro g1 hg w1 hbox hb; have GE1 := Aside0.mk (Nat.le_of_eq hg.symm); have BK1 := Aside0.mk hbox; have HX1 := Aside0.mk hb; clear hg hbox hb) | fail)
  refine (HR.out w1 _ _ HX1.out (text_row1 BK1.out)).mono ?_
  rintro e w2 ⟨rfl, hb⟩
  have HB := Aside0.mk (below_then HX1.out HX1.out.size hb)
  clear hb
  go_wp2_with fail
  go_ret
  exact ⟨rfl, HB.out⟩
set_option maxRecDepth 100000 in
set_option maxHeartbeats 400000 in
theorem sync_yes (w : World) (ok : Nat → Prop) (p : Nat) (s : DS) (nm : T) (h : DkAt w ok p s) (hs : Shorts [nm]) (ho : ops62 s) (hr : refuse s true [nm] = 0) :
    Calls Try.prog 26 #[.pointer (some ⟨p, 0, none⟩), .string (bs nm)] w fun e w' => e = .returned (.int .i64 (doneS s fun s => { s with fs := syncF s.fs nm }).2) ∧ DkAt w' ok p (doneS s fun s => { s with fs := syncF s.fs nm }).1 ∧ Only ok w w' := by
  obtain ⟨v, hl⟩ := refuse_there hr
  have HR := Aside0.mk (fun w' A c (hb : Below w.heap.size w w') (hC : text.C w' A 1 [nm]) => refused_calls w' ok p 1 c s true A [nm] (h.below hb) hC hs (by simp))
  rw [hr] at HR
  obtain ⟨mb, cl, ms, h⟩ := h
  obtain ⟨i, m, hi, rfl, rfl⟩ := h.find_of hl
  have HH := Aside0.mk h
  have HI := Aside0.mk hi
  have HOp := Aside0.mk ho
  generalize hS : (doneS s fun s => { s with fs := syncF s.fs m.name }) = S
  have HS := Aside0.mk hS
  clear h hs hr hl hi ho hS
  generalize hnm : m.name = nm at *
  have HNm := Aside0.mk hnm
  clear hnm
  go_enter Try.func26, Try.ntmps26
  go_wp2_with (first | ((with_reducible refine gate_dst (N := 9) rfl ?_); refine row_event2 ?hg (N := 9) ?hd (cs := #[.string (bs nm)]) (t := 9) (n := 1) (c := 1) ?hr ?_; (case hd => rfl); (case hg => rfl); (case hr => first | (go_simp; done) | (go_simp; rfl)); intro g1 hg w1 hbox hb; have GE1 := Aside0.mk (Nat.le_of_eq hg.symm); have BK1 := Aside0.mk hbox; have HX1 := Aside0.mk hb; clear hg hbox hb) | fail)
  refine (HR.out w1 _ _ HX1.out (text_row1 BK1.out)).mono ?_
  rintro e w2 ⟨rfl, hb⟩
  have HB := Aside0.mk (below_then HX1.out HX1.out.size hb)
  clear hb
  have h2 := HH.out.below HB.out
  have H2 := Aside0.mk h2
  obtain ⟨⟨c0, c1, c2, c3, c4⟩, f1, f2, f3, f4⟩ := h2.cells
  have hlk := h2.run_yes HI.out
  rw [HNm.out] at hlk
  clear h2 c1 c2 c3 c4 f1 f2 f3 f4
  generalize hq : m.q = q at hlk
  have HQ := Aside0.mk hq
  clear hq
  go_wp2_with (first
    | (((with_reducible refine gate_dst (N := 6) rfl ?_); refine box_event ?hg (N := 6) ?hd (cs := #[.pointer none]) (t := 66) ?hr ?_; (case hd => rfl); (case hg => rfl); (case hr => first | (go_simp; done) | (go_simp; rfl)); intro g3 hg w3 hbox hb; have GE3 := Aside0.mk (Nat.le_of_eq hg.symm); have BK3 := Aside0.mk hbox; have HX3 := Aside0.mk hb; clear hg hbox hb); (have hg3_0 : w3.cell? ⟨g3, 0, none⟩ = some (.pointer none) := (blk_cell BK3.out 0).trans rfl; have hfg3_0 := blk_frozen BK3.out 0))
    | fail)
  have hb4 : Below w2.heap.size w2 (w3.setCell ⟨g3, 0, none⟩ (.pointer (some ⟨q, 0, none⟩))) := HX3.out.setCell (p := ⟨g3, 0, none⟩) GE3.out _
  have H4 := Aside0.mk (H2.out.below hb4)
  have HB4 := Aside0.mk (below_then HB.out HB.out.size hb4)
  have BK4 := Aside0.mk (show (w3.setCell ⟨g3, 0, none⟩ (.pointer (some ⟨q, 0, none⟩))).heap[g3]? = some (.cells #[.pointer (some ⟨q, 0, none⟩)] 66 (0, 0)) from blk_set BK3.out 0 _)
  clear hb4 c0 hlk hg3_0 hfg3_0
  generalize w3.setCell ⟨g3, 0, none⟩ (.pointer (some ⟨q, 0, none⟩)) = w4 at *
  have HD := Aside0.mk (done_calls w4 ok p s 45 #[.pointer (some ⟨g3, 0, none⟩)] (fun s => { s with fs := syncF s.fs nm }) ⟨mb, cl, ms, H4.out⟩ HOp.out fun_sync (fun w5 h1 h2 => by
    have h5 := h1 _ _ _ H4.out
    have hgp : g3 ≠ p := fun e => by
      have := H4.out.blk
      rw [← e, BK4.out] at this
      injection this with this
      injection this with _ this
      exact absurd this (by decide)
    have hg5 : w5.heap[g3]? = some (.cells #[.pointer (some ⟨m.q, 0, none⟩)] 66 (0, 0)) := by rw [HQ.out]; exact (h2.block g3 (blk_lt BK4.out) hgp).trans BK4.out
    refine (sync1_calls w5 ok p mb cl g3 i _ ms m h5 HI.out hg5).mono fun e w6 hh => ⟨hh.1, ?_, hh.2.2⟩
    have e6 := syncF_is h5 HI.out
    rw [HNm.out] at e6
    show DkAt w6 ok p { s with ops := s.ops + 1, fs := syncF s.fs nm }
    have e7 : syncF s.fs nm = s.fs.set i (m.name, m.bytes, m.bytes.length) := by rw [HNm.out]; exact e6
    rw [e7]
    exact hh.2.1))
  refine HD.out.mono ?_
  rintro e w5 ⟨rfl, h5, ho5⟩
  rw [HS.out] at h5 ⊢
  have H5 := Aside0.mk h5
  have HO5 := Aside0.mk ((Only.of_below (ok := ok) HB4.out).trans ho5 (fun _ hk => .inl hk))
  clear h5 ho5
  go_wp2_with fail
  go_ret
  exact ⟨rfl, H5.out, HO5.out⟩
theorem sync_calls (w : World) (ok : Nat → Prop) (p : Nat) (s : DS) (nm : T) (h : DkAt w ok p s) (hs : Shorts [nm]) (ho : ops62 s) :
    Calls Try.prog 26 #[.pointer (some ⟨p, 0, none⟩), .string (bs nm)] w fun e w' => e = .returned (.int .i64 (syncS s nm).2) ∧ DkAt w' ok p (syncS s nm).1 ∧ Only ok w w' := by
  unfold syncS
  by_cases hr : refuse s true [nm] = 0
  · rw [if_neg (fun hh => hh hr)]
    exact sync_yes w ok p s nm h hs ho hr
  · rw [if_pos hr]
    exact (sync_no w ok p s nm h hs hr).mono fun e w' hh => ⟨hh.1, h.below hh.2, Only.of_below hh.2⟩
end Go.Proofs.Ytabomfmjepmkjaa.Dk
end

section
namespace Go.Proofs.Ytabomfmjepmkjaa.Dk
set_option linter.unusedVariables false
set_option linter.unusedSimpArgs false
open Go.RowKit Go.Proofs.YtabomfmjepmkjaaW.PrintWords Go.Proofs.YtabomfmjepmkjaaW.PrintLast Go.Proofs.YtabomfmjepmkjaaW.PrintMore Go.Proofs.Ytabomfmjepmkjaa.Lib Go.Proofs.Ytabomfmjepmkjaa.Mem Go.Proofs.Ytabomfmjepmkjaa.Txt
open Go.MapKept Go.ChangeMaps
theorem fun_remove : Fun 35 := ⟨_, Try.func35, rfl, rfl⟩
theorem fun_rename : Fun 46 := ⟨_, Try.func46, rfl, rfl⟩
set_option maxRecDepth 100000 in
set_option maxHeartbeats 400000 in
theorem remove1_calls (w : World) (ok : Nat → Prop) (p mb cl gd gn i : Nat) (s : DS) (ms : List FM) (m : FM) (h : DkMs w ok p s mb cl ms) (hi : ms[i]? = some m) (hd : w.heap[gd]? = some (.cells #[.pointer (some ⟨p, 0, none⟩)] 24 (0, 0))) (hn : w.heap[gn]? = some (.cells #[.string (bs m.name)] 9 (0, 0))) :
    Calls Try.prog 35 #[.pointer (some ⟨gd, 0, none⟩), .pointer (some ⟨gn, 0, none⟩)] w fun e w' => e = .returned (.tuple #[]) ∧ DkAt w' ok p { s with fs := s.fs.eraseIdx i } ∧ Only ok w w' := by
  have b0 : w.cell? ⟨gd, 0, none⟩ = some (.pointer (some ⟨p, 0, none⟩)) := (blk_cell hd 0).trans rfl
  have n0 : w.cell? ⟨gn, 0, none⟩ = some (.string (bs m.name)) := (blk_cell hn 0).trans rfl
  obtain ⟨⟨c0, c1, c2, c3, c4⟩, f1, f2, f3, f4⟩ := h.cells
  have h2 := h.below (below_drew1 (Below.refl _ w))
  have hdel := fun ty => h2.run_erase hi ty
  have HE := Aside0.mk (h2.erase i)
  have HO := Aside0.mk (((Only.refl ok w).drew).setBlock (.inl h.okm) (.map ((ms.map ent).toArray.eraseIdxIfInBounds i) cl))
  clear h h2 hi hd hn c1 c2 c3 c4 f1 f2 f3 f4
  generalize m.name = nm at *
  generalize setBlock w.drew mb (.map ((ms.map ent).toArray.eraseIdxIfInBounds i) cl) = w9 at *
  go_enter Try.func35, Try.ntmps35
  go_wp2_with fail
  refine start_ (n := 6) (S := fun w' => w'.cell? ⟨gd, 0, none⟩ = some (.pointer (some ⟨p, 0, none⟩)) ∧ w'.cell? ⟨gn, 0, none⟩ = some (.string (bs nm)) ∧ w'.cell? ⟨p, 0, none⟩ = some (.map (some mb))) (ds := [5]) #[false, false, false, false, false, false] (by kernel_rfl) rfl rfl ⟨b0, n0, c0⟩ (fun hHeld => ?_)
  refine take_ (i := 0) (N := some 2) (v := ?_) (a' := ?_) #[true, false, false, false, false, false] rfl rfl (by kernel_rfl) (fun _ _ _ h => h) (Or.inl ⟨by rfl, ?_⟩) hHeld ?_ ?_
  rotate_left
  · rintro w' ⟨s0, s1, s2⟩
    go_simp
    with_reducible rfl
  rotate_left
  · simp only [Act.put, List.setIfInBounds_toArray, List.set_cons_zero, List.set_cons_succ, i64_w, i32_w]
    rfl
  refine pure_ (i := 1) (N := some 3) (v := ?_) (a' := ?_) #[true, true, false, false, false, false] rfl rfl (by kernel_rfl) (fun _ _ _ h => h) (Or.inl ⟨by rfl, ?_⟩) ?_ ?_
  rotate_left
  · intro w'
    go_simp
    with_reducible rfl
  rotate_left
  · simp only [Act.put, List.setIfInBounds_toArray, List.set_cons_zero, List.set_cons_succ, i64_w, i32_w]
    rfl
  refine pure_ (i := 2) (N := some 4) (v := ?_) (a' := ?_) #[true, true, true, false, false, false] rfl rfl (by kernel_rfl) (fun _ _ _ h => h) (Or.inl ⟨by rfl, ?_⟩) ?_ ?_
  rotate_left
  · intro w'
    go_simp
    with_reducible rfl
  rotate_left
  · simp only [Act.put, List.setIfInBounds_toArray, List.set_cons_zero, List.set_cons_succ, i64_w, i32_w]
    rfl
  refine take_ (i := 3) (N := some 5) (v := ?_) (a' := ?_) #[true, true, true, true, false, false] rfl rfl (by kernel_rfl) (fun _ _ _ h => h) (Or.inl ⟨by rfl, ?_⟩) hHeld ?_ ?_
  rotate_left
  · rintro w' ⟨s0, s1, s2⟩
    go_simp
    with_reducible rfl
  rotate_left
  · simp only [Act.put, List.setIfInBounds_toArray, List.set_cons_zero, List.set_cons_succ, i64_w, i32_w]
    rfl
  refine take_ (i := 4) (N := some 6) (v := ?_) (a' := ?_) #[true, true, true, true, true, false] rfl rfl (by kernel_rfl) (fun _ _ _ h => h) (Or.inl ⟨by rfl, ?_⟩) hHeld ?_ ?_
  rotate_left
  · rintro w' ⟨s0, s1, s2⟩
    go_simp
    with_reducible rfl
  rotate_left
  · simp only [Act.put, List.setIfInBounds_toArray, List.set_cons_zero, List.set_cons_succ, i64_w, i32_w]
    rfl
  refine last_ (i := 5) (N := none) #[true, true, true, true, true, true] rfl rfl (by kernel_rfl) (by decide) (fun K hK => ?_)
  refine value_ (w1 := ?_) (v := ?_) (by rfl) rfl ?_ ?_
  rotate_left 2
  · go_simp
    constructor
    · rfl
    · rfl
  refine hK.out _ _ ?_
  clear hK K
  refine done_ (by kernel_rfl) ?_
  go_wp2_with fail
  go_end0
  exact ⟨rfl, ⟨_, _, _, HE.out⟩, HO.out⟩
theorem DkMs.move_in {w : World} {ok : Nat → Prop} {p mb cl : Nat} {s : DS} {ms : List FM} {m : FM} (h : DkMs w ok p s mb cl ms) (hf : FAt w ok m) (hl : Loose ms m) (b : T) :
    ∃ w9, (Instr.mapUpdate 62 (.map (some mb)) (.string (bs b)) (.pointer (some ⟨m.q, 0, none⟩))).run Try.prog w = .ok () w9 ∧ DkAt w9 ok p { s with fs := putF s.fs b (m.bytes, m.syn) } ∧ Only ok w w9 := by
  rcases find_cases ms b with hn | ⟨j, x, hj, rfl⟩
  · have h1 := h.push (m := { m with name := b, born := cl }) ⟨hf.okq, hf.blk, hf.row, hf.syn⟩ rfl hl hn
    refine ⟨_, h.run_push hn _, ?_, (Only.refl ok w).setBlock (.inl h.okm) _⟩
    rw [h.put_no hn]
    exact ⟨_, _, _, h1⟩
  · have h1 := h.swap (m := { m with name := x.name, born := x.born }) hj ⟨hf.okq, hf.blk, hf.row, hf.syn⟩ rfl rfl hl
    refine ⟨_, h.run_swap hj _, ?_, (Only.refl ok w).setBlock (.inl h.okm) _⟩
    rw [h.put_yes hj]
    exact ⟨_, _, _, h1⟩
theorem cell_of_only {w w' : World} {g i : Nat} {v : Value} (h : w.cell? ⟨g, i, none⟩ = some v) (hb : w'.heap[g]? = w.heap[g]?) : w'.cell? ⟨g, i, none⟩ = some v := (World.cell?_of_block (a := ⟨g, i, none⟩) hb).trans h
set_option maxRecDepth 100000 in
set_option maxHeartbeats 1600000 in
theorem rename1_calls (w : World) (ok : Nat → Prop) (p mb cl gd ga gb i : Nat) (s : DS) (ms : List FM) (m : FM) (b : T) (h : DkMs w ok p s mb cl ms) (hi : ms[i]? = some m) (hd : w.heap[gd]? = some (.cells #[.pointer (some ⟨p, 0, none⟩)] 24 (0, 0))) (ha : w.heap[ga]? = some (.cells #[.string (bs m.name)] 9 (0, 0))) (hb : w.heap[gb]? = some (.cells #[.string (bs b)] 9 (0, 0))) :
    Calls Try.prog 46 #[.pointer (some ⟨gd, 0, none⟩), .pointer (some ⟨ga, 0, none⟩), .pointer (some ⟨gb, 0, none⟩)] w fun e w' => e = .returned (.tuple #[]) ∧ DkAt w' ok p { s with fs := putF (s.fs.eraseIdx i) b (m.bytes, m.syn) } ∧ Only ok w w' := by
  have b0 : w.cell? ⟨gd, 0, none⟩ = some (.pointer (some ⟨p, 0, none⟩)) := (blk_cell hd 0).trans rfl
  have a0 : w.cell? ⟨ga, 0, none⟩ = some (.string (bs m.name)) := (blk_cell ha 0).trans rfl
  have n0 : w.cell? ⟨gb, 0, none⟩ = some (.string (bs b)) := (blk_cell hb 0).trans rfl
  have kd : gd ≠ mb := ne_kind hd h.mblk (fun e => by cases e)
  have ka : ga ≠ mb := ne_kind ha h.mblk (fun e => by cases e)
  have kb : gb ≠ mb := ne_kind hb h.mblk (fun e => by cases e)
  obtain ⟨⟨c0, c1, c2, c3, c4⟩, f1, f2, f3, f4⟩ := h.cells
  have h1 := h.below (below_drew1 (Below.refl _ w))
  have hlk := h1.run_yes hi
  have h2 := h1.below (below_drew1 (Below.refl _ w.drew))
  have hdel := fun ty => h2.run_erase hi ty
  have h3 := h2.erase i
  have e3 : ∀ k, k ≠ mb → (setBlock w.drew.drew mb (.map ((ms.map ent).toArray.eraseIdxIfInBounds i) cl)).heap[k]? = w.heap[k]? := fun k hk => set_other w.drew.drew mb k _ hk
  have hO3 : Only ok w (setBlock w.drew.drew mb (.map ((ms.map ent).toArray.eraseIdxIfInBounds i) cl)) := (((Only.refl ok w).drew).drew).setBlock (.inl h.okm) _
  have hf3 : FAt (setBlock w.drew.drew mb (.map ((ms.map ent).toArray.eraseIdxIfInBounds i) cl)) ok m := (h2.files m (List.mem_of_getElem? hi)).at_map h2.mblk _
  have hls := (h.loose hi).1
  have kp := h.p_mb
  generalize setBlock w.drew.drew mb (.map ((ms.map ent).toArray.eraseIdxIfInBounds i) cl) = w3 at *
  have b3 := cell_of_only b0 (e3 gd kd)
  have n3 := cell_of_only n0 (e3 gb kb)
  have c3' := cell_of_only c0 (e3 p kp)
  have h4 := h3.below (below_drew1 (Below.refl _ w3))
  have hf4 : FAt w3.drew ok m := hf3.step rfl (fun _ _ => rfl) (fun _ hk => hk)
  obtain ⟨w9, hup, hD9, hO9⟩ := h4.move_in hf4 hls b
  have HD9 := Aside0.mk hD9
  have HO9 := Aside0.mk ((hO3.drew).trans hO9 (fun _ hk => .inl hk))
  clear h h1 h2 h3 h4 hi hd ha hb kd ka kb kp e3 hO3 hf3 hf4 hls hD9 hO9 c1 c2 c3 c4 f1 f2 f3 f4
  generalize hqq : m.q = q at *
  generalize hnm : m.name = nm at *
  clear hqq hnm
  go_enter Try.func46, Try.ntmps46
  go_wp2_with fail
  refine start_ (n := 7) (S := fun w' => w'.cell? ⟨gd, 0, none⟩ = some (.pointer (some ⟨p, 0, none⟩)) ∧ w'.cell? ⟨ga, 0, none⟩ = some (.string (bs nm)) ∧ w'.cell? ⟨p, 0, none⟩ = some (.map (some mb)) ∧ (Instr.lookup 62 (.map (some mb)) (.string (bs nm)) false).run Try.prog w' = .ok (.pointer (some ⟨q, 0, none⟩)) w') (ds := []) #[false, false, false, false, false, false, false] (by kernel_rfl) rfl rfl ⟨b0, a0, c0, hlk⟩ (fun hHeld => ?_)
  refine take_ (i := 0) (N := some 4) (v := ?_) (a' := ?_) #[true, false, false, false, false, false, false] rfl rfl (by kernel_rfl) (fun _ _ _ h => h) (Or.inl ⟨by rfl, ?_⟩) hHeld ?_ ?_
  rotate_left
  · rintro w' ⟨s0, s1, s2, s3⟩
    go_simp
    with_reducible rfl
  rotate_left
  · simp only [Act.put, List.setIfInBounds_toArray, List.set_cons_zero, List.set_cons_succ, i64_w, i32_w]
    rfl
  refine pure_ (i := 1) (N := some 5) (v := ?_) (a' := ?_) #[true, true, false, false, false, false, false] rfl rfl (by kernel_rfl) (fun _ _ _ h => h) (Or.inl ⟨by rfl, ?_⟩) ?_ ?_
  rotate_left
  · intro w'
    go_simp
    with_reducible rfl
  rotate_left
  · simp only [Act.put, List.setIfInBounds_toArray, List.set_cons_zero, List.set_cons_succ, i64_w, i32_w]
    rfl
  refine pure_ (i := 2) (N := some 6) (v := ?_) (a' := ?_) #[true, true, true, false, false, false, false] rfl rfl (by kernel_rfl) (fun _ _ _ h => h) (Or.inl ⟨by rfl, ?_⟩) ?_ ?_
  rotate_left
  · intro w'
    go_simp
    with_reducible rfl
  rotate_left
  · simp only [Act.put, List.setIfInBounds_toArray, List.set_cons_zero, List.set_cons_succ, i64_w, i32_w]
    rfl
  refine take_ (i := 3) (N := some 7) (v := ?_) (a' := ?_) #[true, true, true, true, false, false, false] rfl rfl (by kernel_rfl) (fun _ _ _ h => h) (Or.inl ⟨by rfl, ?_⟩) hHeld ?_ ?_
  rotate_left
  · rintro w' ⟨s0, s1, s2, s3⟩
    go_simp
    with_reducible rfl
  rotate_left
  · simp only [Act.put, List.setIfInBounds_toArray, List.set_cons_zero, List.set_cons_succ, i64_w, i32_w]
    rfl
  refine take_ (i := 4) (N := some 8) (v := ?_) (a' := ?_) #[true, true, true, true, true, false, false] rfl rfl (by kernel_rfl) (fun _ _ _ h => h) (Or.inl ⟨by rfl, ?_⟩) hHeld ?_ ?_
  rotate_left
  · rintro w' ⟨s0, s1, s2, s3⟩
    go_simp
    with_reducible rfl
  rotate_left
  · simp only [Act.put, List.setIfInBounds_toArray, List.set_cons_zero, List.set_cons_succ, i64_w, i32_w]
    rfl
  refine take_ (i := 5) (N := some 9) (v := ?_) (a' := ?_) #[true, true, true, true, true, true, false] rfl rfl (by kernel_rfl) (fun _ _ _ h => h) (Or.inl ⟨by rfl, ?_⟩) hHeld ?_ ?_
  rotate_left
  · rintro w' ⟨s0, s1, s2, s3⟩
    go_simp
    with_reducible rfl
  rotate_left
  · simp only [Act.put, List.setIfInBounds_toArray, List.set_cons_zero, List.set_cons_succ, i64_w, i32_w]
    rfl
  refine pure_ (i := 6) (N := some 3) (v := ?_) (a' := ?_) #[true, true, true, true, true, true, true] rfl rfl (by kernel_rfl) (fun _ _ _ h => h) (Or.inl ⟨by rfl, ?_⟩) ?_ ?_
  rotate_left
  · intro w'
    go_simp
    with_reducible rfl
  rotate_left
  · simp only [Act.put, List.setIfInBounds_toArray, List.set_cons_zero, List.set_cons_succ, i64_w, i32_w]
    rfl
  refine done_ (by kernel_rfl) ?_
  clear hHeld hlk
  go_wp2_with fail
  refine start_ (n := 6) (S := fun w' => w'.cell? ⟨gd, 0, none⟩ = some (.pointer (some ⟨p, 0, none⟩)) ∧ w'.cell? ⟨ga, 0, none⟩ = some (.string (bs nm)) ∧ w'.cell? ⟨p, 0, none⟩ = some (.map (some mb))) (ds := [5]) #[false, false, false, false, false, false] (by kernel_rfl) rfl rfl ⟨b0, a0, c0⟩ (fun hHeld => ?_)
  refine take_ (i := 0) (N := some 10) (v := ?_) (a' := ?_) #[true, false, false, false, false, false] rfl rfl (by kernel_rfl) (fun _ _ _ h => h) (Or.inl ⟨by rfl, ?_⟩) hHeld ?_ ?_
  rotate_left
  · rintro w' ⟨s0, s1, s2⟩
    go_simp
    with_reducible rfl
  rotate_left
  · simp only [Act.put, List.setIfInBounds_toArray, List.set_cons_zero, List.set_cons_succ, i64_w, i32_w]
    rfl
  refine pure_ (i := 1) (N := some 11) (v := ?_) (a' := ?_) #[true, true, false, false, false, false] rfl rfl (by kernel_rfl) (fun _ _ _ h => h) (Or.inl ⟨by rfl, ?_⟩) ?_ ?_
  rotate_left
  · intro w'
    go_simp
    with_reducible rfl
  rotate_left
  · simp only [Act.put, List.setIfInBounds_toArray, List.set_cons_zero, List.set_cons_succ, i64_w, i32_w]
    rfl
  refine pure_ (i := 2) (N := some 12) (v := ?_) (a' := ?_) #[true, true, true, false, false, false] rfl rfl (by kernel_rfl) (fun _ _ _ h => h) (Or.inl ⟨by rfl, ?_⟩) ?_ ?_
  rotate_left
  · intro w'
    go_simp
    with_reducible rfl
  rotate_left
  · simp only [Act.put, List.setIfInBounds_toArray, List.set_cons_zero, List.set_cons_succ, i64_w, i32_w]
    rfl
  refine take_ (i := 3) (N := some 13) (v := ?_) (a' := ?_) #[true, true, true, true, false, false] rfl rfl (by kernel_rfl) (fun _ _ _ h => h) (Or.inl ⟨by rfl, ?_⟩) hHeld ?_ ?_
  rotate_left
  · rintro w' ⟨s0, s1, s2⟩
    go_simp
    with_reducible rfl
  rotate_left
  · simp only [Act.put, List.setIfInBounds_toArray, List.set_cons_zero, List.set_cons_succ, i64_w, i32_w]
    rfl
  refine take_ (i := 4) (N := some 14) (v := ?_) (a' := ?_) #[true, true, true, true, true, false] rfl rfl (by kernel_rfl) (fun _ _ _ h => h) (Or.inl ⟨by rfl, ?_⟩) hHeld ?_ ?_
  rotate_left
  · rintro w' ⟨s0, s1, s2⟩
    go_simp
    with_reducible rfl
  rotate_left
  · simp only [Act.put, List.setIfInBounds_toArray, List.set_cons_zero, List.set_cons_succ, i64_w, i32_w]
    rfl
  refine last_ (i := 5) (N := none) #[true, true, true, true, true, true] rfl rfl (by kernel_rfl) (by decide) (fun K hK => ?_)
  refine value_ (w1 := ?_) (v := ?_) (by rfl) rfl ?_ ?_
  rotate_left 2
  · go_simp
    constructor
    · rfl
    · rfl
  refine hK.out _ _ ?_
  clear hK K
  refine done_ (by kernel_rfl) ?_
  clear hHeld hdel b0 a0 n0 c0
  go_wp2_with fail
  refine start_ (n := 7) (S := fun w' => w'.cell? ⟨gd, 0, none⟩ = some (.pointer (some ⟨p, 0, none⟩)) ∧ w'.cell? ⟨gb, 0, none⟩ = some (.string (bs b)) ∧ w'.cell? ⟨p, 0, none⟩ = some (.map (some mb))) (ds := [6]) #[false, false, false, false, false, false, false] (by kernel_rfl) rfl rfl ⟨b3, n3, c3'⟩ (fun hHeld => ?_)
  refine pure_ (i := 5) (N := some 20) (v := ?_) (a' := ?_) #[false, false, false, false, false, true, false] rfl rfl (by kernel_rfl) (fun _ _ _ h => h) (Or.inl ⟨by rfl, ?_⟩) ?_ ?_
  rotate_left
  · intro w'
    go_simp
    with_reducible rfl
  rotate_left
  · simp only [Act.put, List.setIfInBounds_toArray, List.set_cons_zero, List.set_cons_succ, i64_w, i32_w]
    rfl
  refine take_ (i := 0) (N := some 15) (v := ?_) (a' := ?_) #[true, false, false, false, false, true, false] rfl rfl (by kernel_rfl) (fun _ _ _ h => h) (Or.inl ⟨by rfl, ?_⟩) hHeld ?_ ?_
  rotate_left
  · rintro w' ⟨s0, s1, s2⟩
    go_simp
    with_reducible rfl
  rotate_left
  · simp only [Act.put, List.setIfInBounds_toArray, List.set_cons_zero, List.set_cons_succ, i64_w, i32_w]
    rfl
  refine pure_ (i := 1) (N := some 16) (v := ?_) (a' := ?_) #[true, true, false, false, false, true, false] rfl rfl (by kernel_rfl) (fun _ _ _ h => h) (Or.inl ⟨by rfl, ?_⟩) ?_ ?_
  rotate_left
  · intro w'
    go_simp
    with_reducible rfl
  rotate_left
  · simp only [Act.put, List.setIfInBounds_toArray, List.set_cons_zero, List.set_cons_succ, i64_w, i32_w]
    rfl
  refine pure_ (i := 2) (N := some 17) (v := ?_) (a' := ?_) #[true, true, true, false, false, true, false] rfl rfl (by kernel_rfl) (fun _ _ _ h => h) (Or.inl ⟨by rfl, ?_⟩) ?_ ?_
  rotate_left
  · intro w'
    go_simp
    with_reducible rfl
  rotate_left
  · simp only [Act.put, List.setIfInBounds_toArray, List.set_cons_zero, List.set_cons_succ, i64_w, i32_w]
    rfl
  refine take_ (i := 3) (N := some 18) (v := ?_) (a' := ?_) #[true, true, true, true, false, true, false] rfl rfl (by kernel_rfl) (fun _ _ _ h => h) (Or.inl ⟨by rfl, ?_⟩) hHeld ?_ ?_
  rotate_left
  · rintro w' ⟨s0, s1, s2⟩
    go_simp
    with_reducible rfl
  rotate_left
  · simp only [Act.put, List.setIfInBounds_toArray, List.set_cons_zero, List.set_cons_succ, i64_w, i32_w]
    rfl
  refine take_ (i := 4) (N := some 19) (v := ?_) (a' := ?_) #[true, true, true, true, true, true, false] rfl rfl (by kernel_rfl) (fun _ _ _ h => h) (Or.inl ⟨by rfl, ?_⟩) hHeld ?_ ?_
  rotate_left
  · rintro w' ⟨s0, s1, s2⟩
    go_simp
    with_reducible rfl
  rotate_left
  · simp only [Act.put, List.setIfInBounds_toArray, List.set_cons_zero, List.set_cons_succ, i64_w, i32_w]
    rfl
  refine last_ (i := 6) (N := none) #[true, true, true, true, true, true, true] rfl rfl (by kernel_rfl) (by decide) (fun K hK => ?_)
  refine skip_ (w1 := ?_) (by rfl) rfl ?_ ?_
  rotate_left
  · go_simp
    rfl
  refine hK.out _ _ ?_
  clear hK K
  refine done_ (by kernel_rfl) ?_
  go_wp2_with fail
  go_end0
  exact ⟨rfl, HD9.out, HO9.out⟩
end Go.Proofs.Ytabomfmjepmkjaa.Dk
end

section
namespace Go.Proofs.Ytabomfmjepmkjaa.Dk
set_option linter.unusedVariables false
set_option linter.unusedSimpArgs false
open Go.RowKit Go.Proofs.YtabomfmjepmkjaaW.PrintWords Go.Proofs.YtabomfmjepmkjaaW.PrintLast Go.Proofs.YtabomfmjepmkjaaW.PrintMore Go.Proofs.Ytabomfmjepmkjaa.Lib Go.Proofs.Ytabomfmjepmkjaa.Mem Go.Proofs.Ytabomfmjepmkjaa.Txt
open Go.MapKept Go.ChangeMaps
theorem removeF_is {w : World} {ok : Nat → Prop} {p mb clock : Nat} {s : DS} {ms : List FM} {m : FM} (h : DkMs w ok p s mb clock ms) {i : Nat} (hi : ms[i]? = some m) : delF s.fs m.name = s.fs.eraseIdx i := h.del_yes hi
theorem renF_is {w : World} {ok : Nat → Prop} {p mb clock : Nat} {s : DS} {ms : List FM} {m : FM} (h : DkMs w ok p s mb clock ms) {i : Nat} (hi : ms[i]? = some m) (b : T) : renF s.fs m.name b = putF (s.fs.eraseIdx i) b (m.bytes, m.syn) := by
  unfold renF
  rw [h.look_yes hi, h.del_yes hi]
theorem block_only {w w' : World} {g p : Nat} {o o2 : Obj} (h : w.heap[g]? = some o) (h2 : w.heap[p]? = some o2) (hne : o ≠ o2) (ho : Only (fun k => k = p) w w') : w'.heap[g]? = some o := (ho.block g (blk_lt h) (ne_kind h h2 hne)).trans h
set_option maxRecDepth 100000 in
set_option maxHeartbeats 1600000 in
theorem remove_no (w : World) (ok : Nat → Prop) (p : Nat) (s : DS) (nm : T) (h : DkAt w ok p s) (hs : Shorts [nm]) (hr : refuse s true [nm] ≠ 0) :
    Calls Try.prog 16 #[.pointer (some ⟨p, 0, none⟩), .string (bs nm)] w fun e w' => e = .returned (.int .i64 (refuse s true [nm])) ∧ Below w.heap.size w w' := by
  have HR := Aside0.mk (fun w' A c (hb : Below w.heap.size w w') (hC : text.C w' A 1 [nm]) => refused_calls w' ok p 1 c s true A [nm] (h.below hb) hC hs (by simp))
  have hb0 : (refuse s true [nm] == 0) = false := beq_eq_false_iff_ne.2 hr
  have hne : (refuse s true [nm] != 0) = true := bne_iff_ne.2 hr
  generalize refuse s true [nm] = r at *
  clear h hs hr
  go_enter Try.func16, Try.ntmps16
  go_upto_region 1 with (first | ((with_reducible refine gate_dst (N := 2) rfl ?_); refine box_event ?hg (N := 2) ?hd (cs := #[.pointer (some ⟨p, 0, none⟩)]) (t := 24) ?hr ?_; (case hd => rfl); (case hg => rfl); (case hr => first | (go_simp; done) | (go_simp; rfl)); intro g1 hg w1 hbox hb; have GE1 := Aside0.mk (Nat.le_of_eq hg.symm); have BK1 := Aside0.mk hbox; have HX1 := Aside0.mk hb; clear hg hbox hb) | ((with_reducible refine gate_dst (N := 3) rfl ?_); refine box_event ?hg (N := 3) ?hd (cs := #[.string (bs nm)]) (t := 9) ?hr ?_; (case hd => rfl); (case hg => rfl); (case hr => first | (go_simp; done) | (go_simp; rfl)); intro g2 hg w2 hbox hb; have GE2 := Aside0.mk (Nat.le_of_eq hg.symm); have BK2 := Aside0.mk hbox; have HX2 := Aside0.mk hb; clear hg hbox hb) | fail)
  have BK1z := Aside0.mk (blk_below BK1.out HX2.out)
  have BK2z := Aside0.mk (BK2.out)
  have HBz := Aside0.mk (show Below w.heap.size w w2 from below_then (HX1.out) (HX1.out).size HX2.out)
  ((have hg1_0 : w2.cell? ⟨g1, 0, none⟩ = some (.pointer (some ⟨p, 0, none⟩)) := (blk_cell BK1z.out 0).trans rfl; have hfg1_0 := blk_frozen BK1z.out 0))
  ((have hg2_0 : w2.cell? ⟨g2, 0, none⟩ = some (.string (bs nm)) := (blk_cell BK2z.out 0).trans rfl; have hfg2_0 := blk_frozen BK2z.out 0))
  clear HX1 HX2 GE1 GE2 BK1 BK2
  go_wp2_with (first | ((with_reducible refine gate_dst (N := 8) rfl ?_); refine row_event2 ?hg (N := 8) ?hd (cs := #[.string (bs nm)]) (t := 9) (n := 1) (c := 1) ?hr ?_; (case hd => rfl); (case hg => rfl); (case hr => first | (go_simp; done) | (go_simp; rfl)); intro g3 hg w3 hbox hb; have GE3 := Aside0.mk (Nat.le_of_eq hg.symm); have BK3 := Aside0.mk hbox; have HX3 := Aside0.mk hb; clear hg hbox hb) | fail)
  have HB3 := Aside0.mk (below_then HBz.out HBz.out.size HX3.out)
  refine (HR.out w3 _ _ HB3.out (text_row1 BK3.out)).mono ?_
  rintro e w5 ⟨rfl, hb⟩
  have HB5 := Aside0.mk (below_then HB3.out HB3.out.size hb)
  have BK1y := Aside0.mk (blk_below (blk_below BK1z.out HX3.out) hb)
  have BK2y := Aside0.mk (blk_below (blk_below BK2z.out HX3.out) hb)
  clear hb hg1_0 hfg1_0 hg2_0 hfg2_0
  go_wp2_with fail
  go_ret
  exact ⟨rfl, HB5.out⟩
set_option maxRecDepth 100000 in
set_option maxHeartbeats 1600000 in
theorem remove_yes (w : World) (ok : Nat → Prop) (p : Nat) (s : DS) (nm : T) (h : DkAt w ok p s) (hs : Shorts [nm]) (ho : ops62 s) (hr : refuse s true [nm] = 0) :
    Calls Try.prog 16 #[.pointer (some ⟨p, 0, none⟩), .string (bs nm)] w fun e w' => e = .returned (.int .i64 (doneS s fun s => { s with fs := delF s.fs nm }).2) ∧ DkAt w' ok p (doneS s fun s => { s with fs := delF s.fs nm }).1 ∧ Only ok w w' := by
  obtain ⟨v, hl⟩ := refuse_there hr
  have HR := Aside0.mk (fun w' A c (hb : Below w.heap.size w w') (hC : text.C w' A 1 [nm]) => refused_calls w' ok p 1 c s true A [nm] (h.below hb) hC hs (by simp))
  rw [hr] at HR
  obtain ⟨mb, cl, ms, h⟩ := h
  obtain ⟨i, m, hi, rfl, rfl⟩ := h.find_of hl
  have HH := Aside0.mk h
  have HI := Aside0.mk hi
  have HOp := Aside0.mk ho
  generalize hS : (doneS s fun s => { s with fs := delF s.fs m.name }) = S
  have HS := Aside0.mk hS
  clear h hs hr hl hi ho hS
  generalize hnm : m.name = nm at *
  have HNm := Aside0.mk hnm
  clear hnm
  go_enter Try.func16, Try.ntmps16
  go_upto_region 1 with (first | ((with_reducible refine gate_dst (N := 2) rfl ?_); refine box_event ?hg (N := 2) ?hd (cs := #[.pointer (some ⟨p, 0, none⟩)]) (t := 24) ?hr ?_; (case hd => rfl); (case hg => rfl); (case hr => first | (go_simp; done) | (go_simp; rfl)); intro g1 hg w1 hbox hb; have GE1 := Aside0.mk (Nat.le_of_eq hg.symm); have BK1 := Aside0.mk hbox; have HX1 := Aside0.mk hb; clear hg hbox hb) | ((with_reducible refine gate_dst (N := 3) rfl ?_); refine box_event ?hg (N := 3) ?hd (cs := #[.string (bs nm)]) (t := 9) ?hr ?_; (case hd => rfl); (case hg => rfl); (case hr => first | (go_simp; done) | (go_simp; rfl)); intro g2 hg w2 hbox hb; have GE2 := Aside0.mk (Nat.le_of_eq hg.symm); have BK2 := Aside0.mk hbox; have HX2 := Aside0.mk hb; clear hg hbox hb) | fail)
  have BK1z := Aside0.mk (blk_below BK1.out HX2.out)
  have BK2z := Aside0.mk (BK2.out)
  have HBz := Aside0.mk (show Below w.heap.size w w2 from below_then (HX1.out) (HX1.out).size HX2.out)
  ((have hg1_0 : w2.cell? ⟨g1, 0, none⟩ = some (.pointer (some ⟨p, 0, none⟩)) := (blk_cell BK1z.out 0).trans rfl; have hfg1_0 := blk_frozen BK1z.out 0))
  ((have hg2_0 : w2.cell? ⟨g2, 0, none⟩ = some (.string (bs nm)) := (blk_cell BK2z.out 0).trans rfl; have hfg2_0 := blk_frozen BK2z.out 0))
  clear HX1 HX2 GE1 GE2 BK1 BK2
  go_wp2_with (first | ((with_reducible refine gate_dst (N := 8) rfl ?_); refine row_event2 ?hg (N := 8) ?hd (cs := #[.string (bs nm)]) (t := 9) (n := 1) (c := 1) ?hr ?_; (case hd => rfl); (case hg => rfl); (case hr => first | (go_simp; done) | (go_simp; rfl)); intro g3 hg w3 hbox hb; have GE3 := Aside0.mk (Nat.le_of_eq hg.symm); have BK3 := Aside0.mk hbox; have HX3 := Aside0.mk hb; clear hg hbox hb) | fail)
  have HB3 := Aside0.mk (below_then HBz.out HBz.out.size HX3.out)
  refine (HR.out w3 _ _ HB3.out (text_row1 BK3.out)).mono ?_
  rintro e w5 ⟨rfl, hb⟩
  have HB5 := Aside0.mk (below_then HB3.out HB3.out.size hb)
  have BK1y := Aside0.mk (blk_below (blk_below BK1z.out HX3.out) hb)
  have BK2y := Aside0.mk (blk_below (blk_below BK2z.out HX3.out) hb)
  clear hb hg1_0 hfg1_0 hg2_0 hfg2_0
  ((have hg1_0 : w5.cell? ⟨g1, 0, none⟩ = some (.pointer (some ⟨p, 0, none⟩)) := (blk_cell BK1y.out 0).trans rfl; have hfg1_0 := blk_frozen BK1y.out 0))
  ((have hg2_0 : w5.cell? ⟨g2, 0, none⟩ = some (.string (bs nm)) := (blk_cell BK2y.out 0).trans rfl; have hfg2_0 := blk_frozen BK2y.out 0))
  have H5 := Aside0.mk (HH.out.below HB5.out)
  have HD := Aside0.mk (done_calls w5 ok p s 35 #[.pointer (some ⟨g1, 0, none⟩), .pointer (some ⟨g2, 0, none⟩)] (fun s => { s with fs := delF s.fs nm }) ⟨mb, cl, ms, H5.out⟩ HOp.out fun_remove (fun w6 h1 h2 => by
    have h6 := h1 _ _ _ H5.out
    have q1 := block_only BK1y.out H5.out.blk (fun e => by injection e with _ e; exact absurd e (by decide)) h2
    have q2 := block_only BK2y.out H5.out.blk (fun e => by injection e with _ e; exact absurd e (by decide)) h2
    rw [← HNm.out] at q2
    refine (remove1_calls w6 ok p mb cl g1 g2 i _ ms m h6 HI.out q1 q2).mono fun e w7 hh => ⟨hh.1, ?_, hh.2.2⟩
    have e6 := removeF_is h6 HI.out
    rw [HNm.out] at e6
    have e7 : delF s.fs nm = s.fs.eraseIdx i := e6
    show DkAt w7 ok p { s with ops := s.ops + 1, fs := delF s.fs nm }
    rw [e7]
    exact hh.2.1))
  go_wp2_with fail
  refine HD.out.mono ?_
  rintro e w6 ⟨rfl, h6, ho6⟩
  rw [HS.out] at h6 ⊢
  have H6 := Aside0.mk h6
  have HO6 := Aside0.mk ((Only.of_below (ok := ok) HB5.out).trans ho6 (fun _ hk => .inl hk))
  clear h6 ho6 hg1_0 hfg1_0 hg2_0 hfg2_0
  go_wp2_with fail
  go_ret
  exact ⟨rfl, H6.out, HO6.out⟩
theorem remove_calls (w : World) (ok : Nat → Prop) (p : Nat) (s : DS) (nm : T) (h : DkAt w ok p s) (hs : Shorts [nm]) (ho : ops62 s) :
    Calls Try.prog 16 #[.pointer (some ⟨p, 0, none⟩), .string (bs nm)] w fun e w' => e = .returned (.int .i64 (removeS s nm).2) ∧ DkAt w' ok p (removeS s nm).1 ∧ Only ok w w' := by
  unfold removeS
  by_cases hr : refuse s true [nm] = 0
  · rw [if_neg (fun hh => hh hr)]
    exact remove_yes w ok p s nm h hs ho hr
  · rw [if_pos hr]
    exact (remove_no w ok p s nm h hs hr).mono fun e w' hh => ⟨hh.1, h.below hh.2, Only.of_below hh.2⟩
set_option maxRecDepth 100000 in
set_option maxHeartbeats 1600000 in
theorem rename_no (w : World) (ok : Nat → Prop) (p : Nat) (s : DS) (nm : T) (b : T) (h : DkAt w ok p s) (hs : Shorts [nm, b]) (hr : refuse s true [nm, b] ≠ 0) :
    Calls Try.prog 27 #[.pointer (some ⟨p, 0, none⟩), .string (bs nm), .string (bs b)] w fun e w' => e = .returned (.int .i64 (refuse s true [nm, b])) ∧ Below w.heap.size w w' := by
  have HR := Aside0.mk (fun w' A c (hb : Below w.heap.size w w') (hC : text.C w' A 2 [nm, b]) => refused_calls w' ok p 2 c s true A [nm, b] (h.below hb) hC hs (by simp))
  have hb0 : (refuse s true [nm, b] == 0) = false := beq_eq_false_iff_ne.2 hr
  have hne : (refuse s true [nm, b] != 0) = true := bne_iff_ne.2 hr
  generalize refuse s true [nm, b] = r at *
  clear h hs hr
  go_enter Try.func27, Try.ntmps27
  go_upto_region 1 with (first | ((with_reducible refine gate_dst (N := 3) rfl ?_); refine box_event ?hg (N := 3) ?hd (cs := #[.pointer (some ⟨p, 0, none⟩)]) (t := 24) ?hr ?_; (case hd => rfl); (case hg => rfl); (case hr => first | (go_simp; done) | (go_simp; rfl)); intro g1 hg w1 hbox hb; have GE1 := Aside0.mk (Nat.le_of_eq hg.symm); have BK1 := Aside0.mk hbox; have HX1 := Aside0.mk hb; clear hg hbox hb) | ((with_reducible refine gate_dst (N := 4) rfl ?_); refine box_event ?hg (N := 4) ?hd (cs := #[.string (bs nm)]) (t := 9) ?hr ?_; (case hd => rfl); (case hg => rfl); (case hr => first | (go_simp; done) | (go_simp; rfl)); intro g2 hg w2 hbox hb; have GE2 := Aside0.mk (Nat.le_of_eq hg.symm); have BK2 := Aside0.mk hbox; have HX2 := Aside0.mk hb; clear hg hbox hb) | ((with_reducible refine gate_dst (N := 5) rfl ?_); refine box_event ?hg (N := 5) ?hd (cs := #[.string (bs b)]) (t := 9) ?hr ?_; (case hd => rfl); (case hg => rfl); (case hr => first | (go_simp; done) | (go_simp; rfl)); intro g3 hg w3 hbox hb; have GE3 := Aside0.mk (Nat.le_of_eq hg.symm); have BK3 := Aside0.mk hbox; have HX3 := Aside0.mk hb; clear hg hbox hb) | fail)
  have BK1z := Aside0.mk (blk_below (blk_below BK1.out HX2.out) HX3.out)
  have BK2z := Aside0.mk (blk_below BK2.out HX3.out)
  have BK3z := Aside0.mk (BK3.out)
  have HBz := Aside0.mk (show Below w.heap.size w w3 from below_then (below_then (HX1.out) (HX1.out).size HX2.out) (below_then (HX1.out) (HX1.out).size HX2.out).size HX3.out)
  ((have hg1_0 : w3.cell? ⟨g1, 0, none⟩ = some (.pointer (some ⟨p, 0, none⟩)) := (blk_cell BK1z.out 0).trans rfl; have hfg1_0 := blk_frozen BK1z.out 0))
  ((have hg2_0 : w3.cell? ⟨g2, 0, none⟩ = some (.string (bs nm)) := (blk_cell BK2z.out 0).trans rfl; have hfg2_0 := blk_frozen BK2z.out 0))
  ((have hg3_0 : w3.cell? ⟨g3, 0, none⟩ = some (.string (bs b)) := (blk_cell BK3z.out 0).trans rfl; have hfg3_0 := blk_frozen BK3z.out 0))
  clear HX1 HX2 GE1 GE2 BK1 BK2 HX3 GE3 BK3
  go_wp2_with (first | ((with_reducible refine gate_dst (N := 11) rfl ?_); refine row_event2 ?hg (N := 11) ?hd (cs := #[.string (bs nm), .string (bs b)]) (t := 9) (n := 2) (c := 2) ?hr ?_; (case hd => rfl); (case hg => rfl); (case hr => first | (go_simp; done) | (go_simp; rfl)); intro g4 hg w4 hbox hb; have GE4 := Aside0.mk (Nat.le_of_eq hg.symm); have BK4 := Aside0.mk hbox; have HX4 := Aside0.mk hb; clear hg hbox hb) | fail)
  have HB4 := Aside0.mk (below_then HBz.out HBz.out.size HX4.out)
  refine (HR.out w4 _ _ HB4.out (text_row2 BK4.out)).mono ?_
  rintro e w5 ⟨rfl, hb⟩
  have HB5 := Aside0.mk (below_then HB4.out HB4.out.size hb)
  have BK1y := Aside0.mk (blk_below (blk_below BK1z.out HX4.out) hb)
  have BK2y := Aside0.mk (blk_below (blk_below BK2z.out HX4.out) hb)
  have BK3y := Aside0.mk (blk_below (blk_below BK3z.out HX4.out) hb)
  clear hb hg1_0 hfg1_0 hg2_0 hfg2_0 hg3_0 hfg3_0
  go_wp2_with fail
  go_ret
  exact ⟨rfl, HB5.out⟩
set_option maxRecDepth 100000 in
set_option maxHeartbeats 1600000 in
theorem rename_yes (w : World) (ok : Nat → Prop) (p : Nat) (s : DS) (nm : T) (b : T) (h : DkAt w ok p s) (hs : Shorts [nm, b]) (ho : ops62 s) (hr : refuse s true [nm, b] = 0) :
    Calls Try.prog 27 #[.pointer (some ⟨p, 0, none⟩), .string (bs nm), .string (bs b)] w fun e w' => e = .returned (.int .i64 (doneS s fun s => { s with fs := renF s.fs nm b }).2) ∧ DkAt w' ok p (doneS s fun s => { s with fs := renF s.fs nm b }).1 ∧ Only ok w w' := by
  obtain ⟨v, hl⟩ := refuse_there hr
  have HR := Aside0.mk (fun w' A c (hb : Below w.heap.size w w') (hC : text.C w' A 2 [nm, b]) => refused_calls w' ok p 2 c s true A [nm, b] (h.below hb) hC hs (by simp))
  rw [hr] at HR
  obtain ⟨mb, cl, ms, h⟩ := h
  obtain ⟨i, m, hi, rfl, rfl⟩ := h.find_of hl
  have HH := Aside0.mk h
  have HI := Aside0.mk hi
  have HOp := Aside0.mk ho
  generalize hS : (doneS s fun s => { s with fs := renF s.fs m.name b }) = S
  have HS := Aside0.mk hS
  clear h hs hr hl hi ho hS
  generalize hnm : m.name = nm at *
  have HNm := Aside0.mk hnm
  clear hnm
  go_enter Try.func27, Try.ntmps27
  go_upto_region 1 with (first | ((with_reducible refine gate_dst (N := 3) rfl ?_); refine box_event ?hg (N := 3) ?hd (cs := #[.pointer (some ⟨p, 0, none⟩)]) (t := 24) ?hr ?_; (case hd => rfl); (case hg => rfl); (case hr => first | (go_simp; done) | (go_simp; rfl)); intro g1 hg w1 hbox hb; have GE1 := Aside0.mk (Nat.le_of_eq hg.symm); have BK1 := Aside0.mk hbox; have HX1 := Aside0.mk hb; clear hg hbox hb) | ((with_reducible refine gate_dst (N := 4) rfl ?_); refine box_event ?hg (N := 4) ?hd (cs := #[.string (bs nm)]) (t := 9) ?hr ?_; (case hd => rfl); (case hg => rfl); (case hr => first | (go_simp; done) | (go_simp; rfl)); intro g2 hg w2 hbox hb; have GE2 := Aside0.mk (Nat.le_of_eq hg.symm); have BK2 := Aside0.mk hbox; have HX2 := Aside0.mk hb; clear hg hbox hb) | ((with_reducible refine gate_dst (N := 5) rfl ?_); refine box_event ?hg (N := 5) ?hd (cs := #[.string (bs b)]) (t := 9) ?hr ?_; (case hd => rfl); (case hg => rfl); (case hr => first | (go_simp; done) | (go_simp; rfl)); intro g3 hg w3 hbox hb; have GE3 := Aside0.mk (Nat.le_of_eq hg.symm); have BK3 := Aside0.mk hbox; have HX3 := Aside0.mk hb; clear hg hbox hb) | fail)
  have BK1z := Aside0.mk (blk_below (blk_below BK1.out HX2.out) HX3.out)
  have BK2z := Aside0.mk (blk_below BK2.out HX3.out)
  have BK3z := Aside0.mk (BK3.out)
  have HBz := Aside0.mk (show Below w.heap.size w w3 from below_then (below_then (HX1.out) (HX1.out).size HX2.out) (below_then (HX1.out) (HX1.out).size HX2.out).size HX3.out)
  ((have hg1_0 : w3.cell? ⟨g1, 0, none⟩ = some (.pointer (some ⟨p, 0, none⟩)) := (blk_cell BK1z.out 0).trans rfl; have hfg1_0 := blk_frozen BK1z.out 0))
  ((have hg2_0 : w3.cell? ⟨g2, 0, none⟩ = some (.string (bs nm)) := (blk_cell BK2z.out 0).trans rfl; have hfg2_0 := blk_frozen BK2z.out 0))
  ((have hg3_0 : w3.cell? ⟨g3, 0, none⟩ = some (.string (bs b)) := (blk_cell BK3z.out 0).trans rfl; have hfg3_0 := blk_frozen BK3z.out 0))
  clear HX1 HX2 GE1 GE2 BK1 BK2 HX3 GE3 BK3
  go_wp2_with (first | ((with_reducible refine gate_dst (N := 11) rfl ?_); refine row_event2 ?hg (N := 11) ?hd (cs := #[.string (bs nm), .string (bs b)]) (t := 9) (n := 2) (c := 2) ?hr ?_; (case hd => rfl); (case hg => rfl); (case hr => first | (go_simp; done) | (go_simp; rfl)); intro g4 hg w4 hbox hb; have GE4 := Aside0.mk (Nat.le_of_eq hg.symm); have BK4 := Aside0.mk hbox; have HX4 := Aside0.mk hb; clear hg hbox hb) | fail)
  have HB4 := Aside0.mk (below_then HBz.out HBz.out.size HX4.out)
  refine (HR.out w4 _ _ HB4.out (text_row2 BK4.out)).mono ?_
  rintro e w5 ⟨rfl, hb⟩
  have HB5 := Aside0.mk (below_then HB4.out HB4.out.size hb)
  have BK1y := Aside0.mk (blk_below (blk_below BK1z.out HX4.out) hb)
  have BK2y := Aside0.mk (blk_below (blk_below BK2z.out HX4.out) hb)
  have BK3y := Aside0.mk (blk_below (blk_below BK3z.out HX4.out) hb)
  clear hb hg1_0 hfg1_0 hg2_0 hfg2_0 hg3_0 hfg3_0
  ((have hg1_0 : w5.cell? ⟨g1, 0, none⟩ = some (.pointer (some ⟨p, 0, none⟩)) := (blk_cell BK1y.out 0).trans rfl; have hfg1_0 := blk_frozen BK1y.out 0))
  ((have hg2_0 : w5.cell? ⟨g2, 0, none⟩ = some (.string (bs nm)) := (blk_cell BK2y.out 0).trans rfl; have hfg2_0 := blk_frozen BK2y.out 0))
  ((have hg3_0 : w5.cell? ⟨g3, 0, none⟩ = some (.string (bs b)) := (blk_cell BK3y.out 0).trans rfl; have hfg3_0 := blk_frozen BK3y.out 0))
  have H5 := Aside0.mk (HH.out.below HB5.out)
  have HD := Aside0.mk (done_calls w5 ok p s 46 #[.pointer (some ⟨g1, 0, none⟩), .pointer (some ⟨g2, 0, none⟩), .pointer (some ⟨g3, 0, none⟩)] (fun s => { s with fs := renF s.fs nm b }) ⟨mb, cl, ms, H5.out⟩ HOp.out fun_rename (fun w6 h1 h2 => by
    have h6 := h1 _ _ _ H5.out
    have q1 := block_only BK1y.out H5.out.blk (fun e => by injection e with _ e; exact absurd e (by decide)) h2
    have q2 := block_only BK2y.out H5.out.blk (fun e => by injection e with _ e; exact absurd e (by decide)) h2
    have q3 := block_only BK3y.out H5.out.blk (fun e => by injection e with _ e; exact absurd e (by decide)) h2
    rw [← HNm.out] at q2
    refine (rename1_calls w6 ok p mb cl g1 g2 g3 i _ ms m b h6 HI.out q1 q2 q3).mono fun e w7 hh => ⟨hh.1, ?_, hh.2.2⟩
    have e6 := renF_is h6 HI.out b
    rw [HNm.out] at e6
    have e7 : renF s.fs nm b = putF (s.fs.eraseIdx i) b (m.bytes, m.syn) := e6
    show DkAt w7 ok p { s with ops := s.ops + 1, fs := renF s.fs nm b }
    rw [e7]
    exact hh.2.1))
  go_wp2_with fail
  refine HD.out.mono ?_
  rintro e w6 ⟨rfl, h6, ho6⟩
  rw [HS.out] at h6 ⊢
  have H6 := Aside0.mk h6
  have HO6 := Aside0.mk ((Only.of_below (ok := ok) HB5.out).trans ho6 (fun _ hk => .inl hk))
  clear h6 ho6 hg1_0 hfg1_0 hg2_0 hfg2_0 hg3_0 hfg3_0
  go_wp2_with fail
  go_ret
  exact ⟨rfl, H6.out, HO6.out⟩
theorem rename_calls (w : World) (ok : Nat → Prop) (p : Nat) (s : DS) (nm : T) (b : T) (h : DkAt w ok p s) (hs : Shorts [nm, b]) (ho : ops62 s) :
    Calls Try.prog 27 #[.pointer (some ⟨p, 0, none⟩), .string (bs nm), .string (bs b)] w fun e w' => e = .returned (.int .i64 (renameS s nm b).2) ∧ DkAt w' ok p (renameS s nm b).1 ∧ Only ok w w' := by
  unfold renameS
  by_cases hr : refuse s true [nm, b] = 0
  · rw [if_neg (fun hh => hh hr)]
    exact rename_yes w ok p s nm b h hs ho hr
  · rw [if_pos hr]
    exact (rename_no w ok p s nm b h hs hr).mono fun e w' hh => ⟨hh.1, h.below hh.2, Only.of_below hh.2⟩
end Go.Proofs.Ytabomfmjepmkjaa.Dk
end

section
namespace Go.Proofs.Ytabomfmjepmkjaa.Dk
set_option linter.unusedVariables false
set_option linter.unusedSimpArgs false
open Go.RowKit Go.Proofs.YtabomfmjepmkjaaW.PrintWords Go.Proofs.YtabomfmjepmkjaaW.PrintLast Go.Proofs.YtabomfmjepmkjaaW.PrintMore Go.Proofs.Ytabomfmjepmkjaa.Lib Go.Proofs.Ytabomfmjepmkjaa.Mem Go.Proofs.Ytabomfmjepmkjaa.Txt
open Go.MapKept Go.ChangeMaps
theorem Own_bound {α : Type} {E : Elt α} {w : World} {ok : Nat → Prop} {A : Option Addr} {n c : Nat} {xs : List α} (h : Own E w ok A n c xs) : Own E w (fun k => ok k ∧ k < w.heap.size) A n c xs :=
  ⟨h.len, h.cap, h.max, h.row.imp id (fun ⟨g, cur, e, h1, h2, h3⟩ => ⟨g, cur, e, ⟨h1, blk_lt h2⟩, h2, h3⟩)⟩
theorem BkMs.bound {w : World} {ok : Nat → Prop} {q : Nat} {b : BS} {A1 A2 A3 : Option Addr} {n1 n2 n3 c1 c2 c3 : Nat} (h : BkMs w ok q b A1 A2 A3 n1 n2 n3 c1 c2 c3) : BkMs w (fun k => ok k ∧ k < w.heap.size) q b A1 A2 A3 n1 n2 n3 c1 c2 c3 :=
  ⟨⟨h.okq, blk_lt h.blk⟩, h.blk, Own_bound h.r1, Own_bound h.r2, Own_bound h.r3, h.d12⟩
theorem BkAt.bound {w : World} {ok : Nat → Prop} {q : Nat} {b : BS} (h : BkAt w ok q b) : BkAt w (fun k => ok k ∧ k < w.heap.size) q b := by obtain ⟨A1, A2, A3, n1, n2, n3, c1, c2, c3, h⟩ := h; exact ⟨A1, A2, A3, n1, n2, n3, c1, c2, c3, h.bound⟩
structure DB (w w' : World) (Od Ob : Nat → Prop) (p q : Nat) (d : DS) (b : BS) (okd okb : Nat → Prop) : Prop where
  dk : DkAt w' okd p d
  bk : BkAt w' okb q b
  apart : ∀ k, okd k → ¬ okb k
  ld : ∀ k, okd k → (Od k ∨ w.heap.size ≤ k) ∧ k < w'.heap.size
  lb : ∀ k, okb k → (Ob k ∨ w.heap.size ≤ k) ∧ k < w'.heap.size
  only : Only (fun k => Od k ∨ Ob k) w w'
def Noted (w w' : World) (Od Ob : Nat → Prop) (p q : Nat) (d : DS) (b : BS) : Prop := ∃ okd okb, DB w w' Od Ob p q d b okd okb
section
variable {w w1 w2 : World} {Od Ob okd okb : Nat → Prop} {p q : Nat} {d d' : DS} {b b' : BS}
theorem DB.start (hd : DkAt w Od p d) (hb : BkAt w Ob q b) (ha : ∀ k, Od k → ¬ Ob k) : DB w w Od Ob p q d b (fun k => Od k ∧ k < w.heap.size) (fun k => Ob k ∧ k < w.heap.size) :=
  ⟨hd.bound, hb.bound, fun k h1 h2 => ha k h1.1 h2.1, fun k h => ⟨.inl h.1, h.2⟩, fun k h => ⟨.inl h.1, h.2⟩, Only.refl _ _⟩
theorem DB.disk (h : DB w w1 Od Ob p q d b okd okb) (hd : DkAt w2 (okx okd w1 w2) p d') (ho : Only okd w1 w2) : DB w w2 Od Ob p q d' b (okx okd w1 w2) okb :=
  ⟨hd, h.bk.step ho (fun k hk _ hk2 => h.apart k hk2 hk), fun k hk hg => hk.elim (fun h2 => h.apart k h2 hg) (fun h2 => by have := h.lb k hg; omega),
    fun k hk => hk.elim (fun h2 => ⟨(h.ld k h2).1, Nat.lt_of_lt_of_le (h.ld k h2).2 ho.size⟩) (fun h2 => ⟨.inr (Nat.le_trans h.only.size h2.1), h2.2⟩), fun k hk => ⟨(h.lb k hk).1, Nat.lt_of_lt_of_le (h.lb k hk).2 ho.size⟩,
    h.only.trans ho (fun k hk => (h.ld k hk).1.imp .inl id)⟩
theorem DB.disk' (h : DB w w1 Od Ob p q d b okd okb) (hd : DkAt w2 okd p d') (ho : Only okd w1 w2) : DB w w2 Od Ob p q d' b (okx okd w1 w2) okb := h.disk (hd.mono (fun _ hk => .inl hk)) ho
theorem DB.book (h : DB w w1 Od Ob p q d b okd okb) (hb : BkAt w2 (okx okb w1 w2) q b') (ho : Only okb w1 w2) : DB w w2 Od Ob p q d b' okd (okx okb w1 w2) :=
  ⟨h.dk.step ho (fun k hk _ hk2 => h.apart k hk hk2), hb, fun k hk hg => hg.elim (fun h2 => h.apart k hk h2) (fun h2 => by have := h.ld k hk; omega),
    fun k hk => ⟨(h.ld k hk).1, Nat.lt_of_lt_of_le (h.ld k hk).2 ho.size⟩, fun k hk => hk.elim (fun h2 => ⟨(h.lb k h2).1, Nat.lt_of_lt_of_le (h.lb k h2).2 ho.size⟩) (fun h2 => ⟨.inr (Nat.le_trans h.only.size h2.1), h2.2⟩),
    h.only.trans ho (fun k hk => (h.lb k hk).1.imp .inr id)⟩
theorem DB.below (h : DB w w1 Od Ob p q d b okd okb) (hb : Below w1.heap.size w1 w2) : DB w w2 Od Ob p q d b okd okb :=
  ⟨h.dk.below hb, h.bk.below hb, h.apart, fun k hk => ⟨(h.ld k hk).1, Nat.lt_of_lt_of_le (h.ld k hk).2 hb.size⟩, fun k hk => ⟨(h.lb k hk).1, Nat.lt_of_lt_of_le (h.lb k hk).2 hb.size⟩, h.only.then_below hb⟩
end
section
variable {w : World} {ok : Nat → Prop} {q : Nat} {b : BS} {A1 A2 A3 : Option Addr} {n1 n2 n3 c1 c2 c3 : Nat}
theorem BkMs.set1 (h : BkMs w ok q b A1 A2 A3 n1 n2 n3 c1 c2 c3) {g : Nat} (hg : A1 = some ⟨g, 0, none⟩) (i : Nat) (x : T) : BkMs (w.setCell ⟨g, i, none⟩ (.string (bs x))) ok q { b with names := b.names.set i x } A1 A2 A3 n1 n2 n3 c1 c2 c3 ∧ Only ok w (w.setCell ⟨g, i, none⟩ (.string (bs x))) :=
  ⟨⟨h.okq, (heap_not (fun e => h.q1 _ hg e.symm)).trans h.blk, h.r1.set hg i x, h.r2.move (fun a ha => heap_not (fun e => h.d12 _ a hg ha e.symm)), h.r3.move (fun a ha => heap_not (fun e => apartTI h.r1 h.r3 _ a hg ha e.symm)), h.d12⟩,
    (Only.refl ok w).set i (.inl (h.r1.lt _ hg).2) _⟩
theorem BkMs.set2 (h : BkMs w ok q b A1 A2 A3 n1 n2 n3 c1 c2 c3) {g : Nat} (hg : A2 = some ⟨g, 0, none⟩) (i : Nat) (x : T) : BkMs (w.setCell ⟨g, i, none⟩ (.string (bs x))) ok q { b with bytes := b.bytes.set i x } A1 A2 A3 n1 n2 n3 c1 c2 c3 ∧ Only ok w (w.setCell ⟨g, i, none⟩ (.string (bs x))) :=
  ⟨⟨h.okq, (heap_not (fun e => h.q2 _ hg e.symm)).trans h.blk, h.r1.move (fun a ha => heap_not (fun e => h.d12 a _ ha hg e)), h.r2.set hg i x, h.r3.move (fun a ha => heap_not (fun e => apartTI h.r2 h.r3 _ a hg ha e.symm)), h.d12⟩,
    (Only.refl ok w).set i (.inl (h.r2.lt _ hg).2) _⟩
theorem BkMs.set3 (h : BkMs w ok q b A1 A2 A3 n1 n2 n3 c1 c2 c3) {g : Nat} (hg : A3 = some ⟨g, 0, none⟩) (i : Nat) (x : Int) : BkMs (w.setCell ⟨g, i, none⟩ (.int .i64 x)) ok q { b with syn := b.syn.set i x } A1 A2 A3 n1 n2 n3 c1 c2 c3 ∧ Only ok w (w.setCell ⟨g, i, none⟩ (.int .i64 x)) :=
  ⟨⟨h.okq, (heap_not (fun e => h.q3 _ hg e.symm)).trans h.blk, h.r1.move (fun a ha => heap_not (fun e => apartTI h.r1 h.r3 a _ ha hg e)), h.r2.move (fun a ha => heap_not (fun e => apartTI h.r2 h.r3 a _ ha hg e)), h.r3.set hg i x, h.d12⟩,
    (Only.refl ok w).set i (.inl (h.r3.lt _ hg).2) _⟩
end
theorem idxT_nat {names : List T} {s : T} (h : 0 ≤ idxT names s) : ∃ i : Nat, idxT names s = i ∧ i < names.length ∧ names.getD i [] = s := by
  unfold idxT at *
  cases hf : names.findIdx? (fun t => decide (t = s)) with
  | none => rw [hf] at h; exact absurd h (by decide)
  | some i =>
    obtain ⟨hi, h1, _⟩ := List.findIdx?_eq_some_iff_getElem.1 hf
    refine ⟨i, rfl, hi, ?_⟩
    rw [List.getD_eq_getElem?_getD, List.getElem?_eq_getElem hi]
    exact of_decide_eq_true h1
theorem Own_kind {α : Type} {E : Elt α} {w : World} {ok : Nat → Prop} {A : Option Addr} {n c : Nat} {xs : List α} (h : Own E w ok A n c xs) (a : Addr) (ha : A = some a) {g : Nat} {cs : Array Value} {t : TypeId} {fr : Nat × Nat} (hg : w.heap[g]? = some (.cells cs t fr)) (ht : t ≠ E.el) : g ≠ a.block := by
  rcases h.row with ⟨e, _⟩ | ⟨g', cur, e, _, hg', _⟩
  · rw [e] at ha; cases ha
  · rw [e] at ha
    obtain rfl := Option.some.inj ha
    exact fun e2 => by have e3 : g = g' := e2; subst e3; rw [hg'] at hg; injection hg with hg; injection hg with _ hg; exact ht hg.symm
theorem okx_set {ok : Nat → Prop} {w w4 : World} {a : Addr} {u : Value} {k : Nat} (hk : okx ok w w4 k) : okx ok w (w4.setCell a u) k := okx.grow (by simp [World.setCell]) hk
theorem set_new {w : World} {ok : Nat → Prop} {q : Nat} {ns ys : List T} {zs : List Int} {A1 A2 A3 : Option Addr} {n1 n2 n3 c1 c2 c3 n g : Nat} (h : BkMs w ok q ⟨ns, ys ++ [[]], zs⟩ A1 A2 A3 n1 n2 n3 c1 c2 c3) (hg : A2 = some ⟨g, 0, none⟩) (hn : ys.length = n) (X : T) :
    BkMs (w.setCell ⟨g, n, none⟩ (.string (bs ([] ++ X)))) ok q ⟨ns, ys ++ [X], zs⟩ A1 A2 A3 n1 n2 n3 c1 c2 c3 ∧ Only ok w (w.setCell ⟨g, n, none⟩ (.string (bs ([] ++ X)))) := by
  have h2 := h.set2 hg n ([] ++ X)
  have e : (ys ++ [[]]).set n ([] ++ X) = ys ++ [X] := by subst hn; simp
  simp only [e] at h2
  exact h2
theorem cat_ts (y : T) (xs : List Int) : bs y ++ strOfNums xs = bs (y ++ (strOfNums xs).data.toList) := by
  rw [bs_eq, bs_data, ByteArray.data_append, Array.toList_append, bs_data]
def noteSync (d : DS) (b : BS) (s : T) : DS × BS × Bool := ((syncS d s).1, if 0 ≤ idxT b.names s then { b with syn := b.syn.set (idxT b.names s).toNat (b.bytes.getD (idxT b.names s).toNat []).length } else b, ((syncS d s).2 == 0) == decide (0 ≤ idxT b.names s))
def BS.out (b : BS) (i : Nat) : BS := ⟨b.names.eraseIdx i, b.bytes.eraseIdx i, b.syn.eraseIdx i⟩
def noteRemove (d : DS) (b : BS) (s : T) : DS × BS × Bool := ((removeS d s).1, if 0 ≤ idxT b.names s then b.out (idxT b.names s).toNat else b, ((removeS d s).2 == 0) == decide (0 ≤ idxT b.names s))
def BS.move (b : BS) (s t : T) : BS :=
  if 0 ≤ idxT b.names s ∧ s ≠ t then
    (if 0 ≤ idxT b.names t then ({ b with names := b.names.set (idxT b.names s).toNat t } : BS).out (idxT b.names t).toNat else { b with names := b.names.set (idxT b.names s).toNat t })
  else b
def noteRename (d : DS) (b : BS) (s t : T) : DS × BS × Bool := ((renameS d s t).1, b.move s t, ((renameS d s t).2 == 0) == decide (0 ≤ idxT b.names s))
def BS.put (b : BS) (s x : T) : BS :=
  if 0 ≤ idxT b.names s then { b with bytes := b.bytes.set (idxT b.names s).toNat (b.bytes.getD (idxT b.names s).toNat [] ++ x) } else ⟨b.names ++ [s], b.bytes ++ [x], b.syn ++ [0]⟩
def txtI (xs : List Int) : T := (strOfNums xs).data.toList
def noteAppend (d : DS) (b : BS) (s : T) (xs : List Int) : DS × BS × Bool := ((appendS d s xs).1, b.put s (txtI xs), (appendS d s xs).2 == 0)
theorem beqT (x : Bool) : (x == true) = x := by cases x <;> rfl
theorem beqF (x : Bool) : (x == false) = !x := by cases x <;> rfl
def nameT (k : Nat) : T := [[97], [98], [97, 98], [97, 47, 49], [122]].getD (k % 5) []
theorem nameT_len (k : Nat) : (nameT k).length ≤ 3 := by
  unfold nameT
  have : k % 5 < 5 := Nat.mod_lt _ (by decide)
  generalize k % 5 = r at *
  rcases r with _ | _ | _ | _ | _ | r <;> first | decide | omega
theorem nameT_named (k : Nat) : named (nameT k) = true := by
  unfold nameT
  have : k % 5 < 5 := Nat.mod_lt _ (by decide)
  generalize k % 5 = r at *
  rcases r with _ | _ | _ | _ | _ | r <;> first | decide | omega
theorem name_f (k : Nat) (h : k < 9223372036854775808) : P.gristmilllaw12_name.f (k : Int) = some (bs (nameT k)) := by
  have ha : P.gristmilllaw12_abs.f (k : Int) = some (k : Int) := by
    unfold P.gristmilllaw12_abs.f
    rw [if_neg (by omega)]
  unfold P.gristmilllaw12_name.f
  rw [Option.bind_some, ha, Option.bind_some]
  have e : Int.tmod (k : Int) 5 = ((k % 5 : Nat) : Int) := by rw [Int.tmod_eq_emod_of_nonneg (by omega)]; rfl
  rw [e]
  unfold nameT
  have : k % 5 < 5 := Nat.mod_lt _ (by decide)
  generalize k % 5 = r at *
  rcases r with _ | _ | _ | _ | _ | r <;> first | rfl | decide | omega
end Go.Proofs.Ytabomfmjepmkjaa.Dk
end

section
namespace Go.Proofs.Ytabomfmjepmkjaa.Dk
set_option linter.unusedVariables false
set_option linter.unusedSimpArgs false
open Go.RowKit Go.Proofs.YtabomfmjepmkjaaW.PrintWords Go.Proofs.YtabomfmjepmkjaaW.PrintLast Go.Proofs.YtabomfmjepmkjaaW.PrintMore Go.Proofs.Ytabomfmjepmkjaa.Lib Go.Proofs.Ytabomfmjepmkjaa.Mem Go.Proofs.Ytabomfmjepmkjaa.Txt
open Go.MapKept Go.ChangeMaps
set_option maxRecDepth 100000 in
set_option maxHeartbeats 3200000 in
theorem note_append0 (w : World) (Od Ob : Nat → Prop) (p q : Nat) (d : DS) (b : BS) (kind a N : Int) (sA sB : ByteArray) (B : Option Addr) (mB cB n : Nat) (xs : List Int) (hd : DkAt w Od p d) (hb : BkAt w Ob q b) (hap : ∀ k, Od k → ¬ Ob k)
    (hl1 : b.names.length = n) (hl2 : b.bytes.length = n) (hl3 : b.syn.length = n) (hn : n < 1000000) (hA : sA.size < 4611686018427387904) (hB : sB.size < 4611686018427387904) (hC : ∀ w', Only (fun k => Od k ∨ Ob k) w w' → Kd.C (Kd.int .u8) w' B mB xs) (ha : P.gristmilllaw12_abs.f kind = some a) (hk : Int.tmod a 6 = 0) (ho : ops62 d) (hfit : ((look d.fs (nameT sA.size)).getD ([], 0)).1.length + mB ≤ 140737488355328) (hcat : (b.bytes.getD (idxT b.names (nameT sA.size)).toNat []).length + mB ≤ 9223372036854775807) :
    Calls Try.prog 20 #[.pointer (some ⟨q, 0, none⟩), .pointer (some ⟨p, 0, none⟩), .agg #[.int .i64 kind, .string sA, .string sB, .slice B mB cB, .int .i64 N]] w fun e w' => e = .returned (.bool (noteAppend d b (nameT sA.size) xs).2.2) ∧ Noted w w' Od Ob p q (noteAppend d b (nameT sA.size) xs).1 (noteAppend d b (nameT sA.size) xs).2.1 := by
  have HD0 := Aside0.mk (DB.start hd hb hap)
  have HL := Aside0.mk (And.intro hl1 (And.intro hl2 hl3))
  have HN := Aside0.mk hn
  have HAb := Aside0.mk ha
  have HOp := Aside0.mk ho
  have HC := Aside0.mk hC
  have HB := Aside0.mk hB
  have HName := Aside0.mk (name_f sA.size (by omega))
  have HSh := Aside0.mk (show Shorts [nameT sA.size] from fun t ht => by rw [List.mem_singleton.1 ht]; have := nameT_len sA.size; omega)
  have HNd := Aside0.mk (nameT_named sA.size)
  have HFit := Aside0.mk hfit
  have HCat := Aside0.mk hcat
  clear hfit hcat
  generalize nameT sA.size = s at *
  clear hd hb hap hl1 hl2 hl3 ha ho hC hB hA hn
  go_enter Try.func20, Try.ntmps20
  go_wp2_with (first
    | (((with_reducible refine gate_dst (N := 5) rfl ?_); refine box_event ?hg (N := 5) ?hd (cs := #[.int .i64 kind, .string sA, .string sB, .slice B mB cB, .int .i64 N]) (t := 44) ?hr ?_; (case hd => rfl); (case hg => rfl); (case hr => first | (go_simp; done) | (go_simp; rfl)); intro g1 hg w1 hbox hb; have GE1 := Aside0.mk (Nat.le_of_eq hg.symm); have BK1 := Aside0.mk hbox; have HX1 := Aside0.mk hb; clear hg hbox hb); (have hg1_0 : w1.cell? ⟨g1, 0, none⟩ = some (.int .i64 kind) := (blk_cell BK1.out 0).trans rfl; have hfg1_0 := blk_frozen BK1.out 0; have hg1_1 : w1.cell? ⟨g1, 1, none⟩ = some (.string sA) := (blk_cell BK1.out 1).trans rfl; have hfg1_1 := blk_frozen BK1.out 1; have hg1_2 : w1.cell? ⟨g1, 2, none⟩ = some (.string sB) := (blk_cell BK1.out 2).trans rfl; have hfg1_2 := blk_frozen BK1.out 2; have hg1_3 : w1.cell? ⟨g1, 3, none⟩ = some (.slice B mB cB) := (blk_cell BK1.out 3).trans rfl; have hfg1_3 := blk_frozen BK1.out 3; have hg1_4 : w1.cell? ⟨g1, 4, none⟩ = some (.int .i64 N) := (blk_cell BK1.out 4).trans rfl; have hfg1_4 := blk_frozen BK1.out 4))
    | fail)
  refine (P.gristmilllaw12_name.calls (sA.size : Int) (bs s) w1 HName.out).mono ?_
  rintro e w2 ⟨rfl, hb2⟩
  have BK2 := Aside0.mk (blk_below BK1.out hb2)
  have HD2 := Aside0.mk ((HD0.out.below HX1.out).below hb2)
  clear hg1_0 hfg1_0 hg1_1 hfg1_1 hg1_2 hfg1_2 hg1_3 hfg1_3 hg1_4 hfg1_4
  clear hb2 HD0 HX1
  go_wp2_with fail
  refine (at_calls w2 _ q b s HD2.out.bk (by rw [HL.out.1]; exact HN.out)).mono ?_
  rintro e w3 ⟨rfl, hb3⟩
  have BK3 := Aside0.mk (blk_below BK2.out hb3)
  have HD3 := Aside0.mk (HD2.out.below hb3)
  clear hb3 HD2
  (have hg1_0 : w3.cell? ⟨g1, 0, none⟩ = some (.int .i64 kind) := (blk_cell BK3.out 0).trans rfl; have hfg1_0 := blk_frozen BK3.out 0; have hg1_1 : w3.cell? ⟨g1, 1, none⟩ = some (.string sA) := (blk_cell BK3.out 1).trans rfl; have hfg1_1 := blk_frozen BK3.out 1; have hg1_2 : w3.cell? ⟨g1, 2, none⟩ = some (.string sB) := (blk_cell BK3.out 2).trans rfl; have hfg1_2 := blk_frozen BK3.out 2; have hg1_3 : w3.cell? ⟨g1, 3, none⟩ = some (.slice B mB cB) := (blk_cell BK3.out 3).trans rfl; have hfg1_3 := blk_frozen BK3.out 3; have hg1_4 : w3.cell? ⟨g1, 4, none⟩ = some (.int .i64 N) := (blk_cell BK3.out 4).trans rfl; have hfg1_4 := blk_frozen BK3.out 4)
  go_wp2_with fail
  refine (P.gristmilllaw12_abs.calls kind a w3 HAb.out).mono ?_
  rintro e w4 ⟨rfl, hdr⟩
  have BK4 := Aside0.mk (blk_below BK3.out hdr.below)
  have HD4 := Aside0.mk (HD3.out.below hdr.below)
  clear hg1_0 hfg1_0 hg1_1 hfg1_1 hg1_2 hfg1_2 hg1_3 hfg1_3 hg1_4 hfg1_4
  clear hdr HD3
  obtain ⟨ix, hix⟩ : ∃ ix, ix = idxT b.names s := ⟨_, rfl⟩
  have HIx := Aside0.mk hix
  rw [← hix]
  clear hix
  have HLn4 := HN
  by_cases hx : ix < 0
  · have hx1 : decide (ix < 0) = true := decide_eq_true hx
    obtain ⟨A1_5, A2_5, A3_5, n1_5, n2_5, n3_5, c1_5, c2_5, c3_5, hbk⟩ := HD4.out.bk
    have HBk5 := Aside0.mk hbk
    have d0 : w4.cell? ⟨q, 0, none⟩ = some (.slice A1_5 n1_5 c1_5) := (blk_cell hbk.blk 0).trans rfl
    obtain rfl : n1_5 = n := hbk.r1.len.symm.trans HL.out.1
    clear hbk
    go_upto_region 10 with (first
      | ((with_reducible refine gate_dst (N := 42) rfl ?_); refine row_event2 ?hg (N := 42) ?hd (cs := #[.string (bs s)]) (t := 9) (n := 1) (c := 1) ?hr ?_; (case hd => rfl); (case hg => rfl); (case hr => first | (go_simp; done) | (go_simp; rfl)); intro g5 hg w5 hbox hb; have GE5 := Aside0.mk (Nat.le_of_eq hg.symm); have BK5 := Aside0.mk hbox; have HX5 := Aside0.mk hb; clear hg hbox hb)
      | ((with_reducible refine gate_builtin (b := .append) (xs := #[.tmp 40, .tmp 42]) rfl ?_); refine append_one_event eT_ok rfl rfl rfl rfl rfl (HBk5.out.below HX5.out).r1 (C_one eT_ok (x := s) BK5.out) ?_ ?_ ?_; (case refine_1 => have := HLn4.out; show (n1_5 + 1) * 16 ≤ _; omega); (case refine_2 => have := HLn4.out; omega); intro A5 c5 w6 hr ho hA; have HP5 := Aside0.mk ((HBk5.out.below HX5.out).put1 hr ho hA); have HO5 := Aside0.mk ho; have e0 : w6.cell? ⟨q, 0, none⟩ = some (.slice A1_5 n1_5 c1_5) := (blk_cell ((ho.block q (blk_lt (HBk5.out.below HX5.out).blk) (fun ⟨a, ha, e⟩ => (HBk5.out.below HX5.out).q1 a ha e.symm)).trans (HBk5.out.below HX5.out).blk) 0).trans rfl; have f0 : w6.frozen? ⟨q, 0, none⟩ = false := blk_frozen ((ho.block q (blk_lt (HBk5.out.below HX5.out).blk) (fun ⟨a, ha, e⟩ => (HBk5.out.below HX5.out).q1 a ha e.symm)).trans (HBk5.out.below HX5.out).blk) 0; clear hr ho hA d0)
      | fail)
    have HD7 := Aside0.mk ((HD4.out.below HX5.out).book ⟨_, _, _, _, _, _, _, _, _, HP5.out.1.mono (fun _ hk => okx_set hk)⟩ HP5.out.2)
    have BK7' := blk_below BK4.out HX5.out
    have BK7 : Aside0 ((w6.setCell ⟨q, 0, none⟩ (.slice A5 (n1_5 + 1) c5)).heap[g1]? = some (.cells #[.int .i64 kind, .string sA, .string sB, .slice B mB cB, .int .i64 N] 44 (0, 0))) := Aside0.mk ((heap_not (ne_kind (HO5.out.block g1 (blk_lt BK7') (fun ⟨a, ha, e⟩ => Own_kind (HBk5.out.below HX5.out).r1 a ha BK7' (by decide) e) |>.trans BK7') ((HO5.out.block q (blk_lt (HBk5.out.below HX5.out).blk) (fun ⟨a, ha, e⟩ => (HBk5.out.below HX5.out).q1 a ha e.symm)).trans (HBk5.out.below HX5.out).blk) (fun e => by injection e with _ e; exact absurd e (by decide)))).trans ((HO5.out.block g1 (blk_lt BK7') (fun ⟨a, ha, e⟩ => Own_kind (HBk5.out.below HX5.out).r1 a ha BK7' (by decide) e)).trans BK7'))
    clear BK7' HBk5 HP5 HO5 HX5 e0 f0
    generalize w6.setCell ⟨q, 0, none⟩ (.slice A5 (n1_5 + 1) c5) = w7 at *
    obtain ⟨A1_8, A2_8, A3_8, n1_8, n2_8, n3_8, c1_8, c2_8, c3_8, hbk⟩ := HD7.out.bk
    have HBk8 := Aside0.mk hbk
    have d1 : w7.cell? ⟨q, 1, none⟩ = some (.slice A2_8 n2_8 c2_8) := (blk_cell hbk.blk 1).trans rfl
    obtain rfl : n2_8 = n1_5 := hbk.r2.len.symm.trans HL.out.2.1
    clear hbk
    go_upto_region 11 with (first
      | ((with_reducible refine gate_dst (N := 51) rfl ?_); refine row_event2 ?hg (N := 51) ?hd (cs := #[.string (bs [])]) (t := 9) (n := 1) (c := 1) ?hr ?_; (case hd => rfl); (case hg => rfl); (case hr => first | (go_simp; done) | (go_simp; rfl)); intro g8 hg w8 hbox hb; have GE8 := Aside0.mk (Nat.le_of_eq hg.symm); have BK8 := Aside0.mk hbox; have HX8 := Aside0.mk hb; clear hg hbox hb)
      | ((with_reducible refine gate_builtin (b := .append) (xs := #[.tmp 50, .tmp 51]) rfl ?_); refine append_one_event eT_ok rfl rfl rfl rfl rfl (HBk8.out.below HX8.out).r2 (C_one eT_ok (x := []) BK8.out) ?_ ?_ ?_; (case refine_1 => have := HLn4.out; show (n2_8 + 1) * 16 ≤ _; omega); (case refine_2 => have := HLn4.out; omega); intro A8 c8 w9 hr ho hA; have HP8 := Aside0.mk ((HBk8.out.below HX8.out).put2 hr ho hA); have HO8 := Aside0.mk ho; have e1 : w9.cell? ⟨q, 1, none⟩ = some (.slice A2_8 n2_8 c2_8) := (blk_cell ((ho.block q (blk_lt (HBk8.out.below HX8.out).blk) (fun ⟨a, ha, e⟩ => (HBk8.out.below HX8.out).q2 a ha e.symm)).trans (HBk8.out.below HX8.out).blk) 1).trans rfl; have f1 : w9.frozen? ⟨q, 1, none⟩ = false := blk_frozen ((ho.block q (blk_lt (HBk8.out.below HX8.out).blk) (fun ⟨a, ha, e⟩ => (HBk8.out.below HX8.out).q2 a ha e.symm)).trans (HBk8.out.below HX8.out).blk) 1; clear hr ho hA d1)
      | fail)
    have HD10 := Aside0.mk ((HD7.out.below HX8.out).book ⟨_, _, _, _, _, _, _, _, _, HP8.out.1.mono (fun _ hk => okx_set hk)⟩ HP8.out.2)
    have BK10' := blk_below BK7.out HX8.out
    have BK10 : Aside0 ((w9.setCell ⟨q, 1, none⟩ (.slice A8 (n2_8 + 1) c8)).heap[g1]? = some (.cells #[.int .i64 kind, .string sA, .string sB, .slice B mB cB, .int .i64 N] 44 (0, 0))) := Aside0.mk ((heap_not (ne_kind (HO8.out.block g1 (blk_lt BK10') (fun ⟨a, ha, e⟩ => Own_kind (HBk8.out.below HX8.out).r2 a ha BK10' (by decide) e) |>.trans BK10') ((HO8.out.block q (blk_lt (HBk8.out.below HX8.out).blk) (fun ⟨a, ha, e⟩ => (HBk8.out.below HX8.out).q2 a ha e.symm)).trans (HBk8.out.below HX8.out).blk) (fun e => by injection e with _ e; exact absurd e (by decide)))).trans ((HO8.out.block g1 (blk_lt BK10') (fun ⟨a, ha, e⟩ => Own_kind (HBk8.out.below HX8.out).r2 a ha BK10' (by decide) e)).trans BK10'))
    clear BK10' HBk8 HP8 HO8 HX8 e1 f1
    generalize w9.setCell ⟨q, 1, none⟩ (.slice A8 (n2_8 + 1) c8) = w10 at *
    obtain ⟨A1_11, A2_11, A3_11, n1_11, n2_11, n3_11, c1_11, c2_11, c3_11, hbk⟩ := HD10.out.bk
    have HBk11 := Aside0.mk hbk
    have d2 : w10.cell? ⟨q, 2, none⟩ = some (.slice A3_11 n3_11 c3_11) := (blk_cell hbk.blk 2).trans rfl
    obtain rfl : n3_11 = n2_8 := hbk.r3.len.symm.trans HL.out.2.2
    clear hbk
    go_upto_region 12 with (first
      | ((with_reducible refine gate_dst (N := 60) rfl ?_); refine row_event2 ?hg (N := 60) ?hd (cs := #[.int .i64 0]) (t := 3) (n := 1) (c := 1) ?hr ?_; (case hd => rfl); (case hg => rfl); (case hr => first | (go_simp; done) | (go_simp; rfl)); intro g11 hg w11 hbox hb; have GE11 := Aside0.mk (Nat.le_of_eq hg.symm); have BK11 := Aside0.mk hbox; have HX11 := Aside0.mk hb; clear hg hbox hb)
      | ((with_reducible refine gate_builtin (b := .append) (xs := #[.tmp 59, .tmp 60]) rfl ?_); refine append_one_event eI_ok rfl rfl rfl rfl rfl (HBk11.out.below HX11.out).r3 (C_one eI_ok (x := 0) BK11.out) ?_ ?_ ?_; (case refine_1 => have := HLn4.out; show (n3_11 + 1) * 8 ≤ _; omega); (case refine_2 => have := HLn4.out; omega); intro A11 c11 w12 hr ho hA; have HP11 := Aside0.mk ((HBk11.out.below HX11.out).put3 hr ho hA); have HO11 := Aside0.mk ho; have e2 : w12.cell? ⟨q, 2, none⟩ = some (.slice A3_11 n3_11 c3_11) := (blk_cell ((ho.block q (blk_lt (HBk11.out.below HX11.out).blk) (fun ⟨a, ha, e⟩ => (HBk11.out.below HX11.out).q3 a ha e.symm)).trans (HBk11.out.below HX11.out).blk) 2).trans rfl; have f2 : w12.frozen? ⟨q, 2, none⟩ = false := blk_frozen ((ho.block q (blk_lt (HBk11.out.below HX11.out).blk) (fun ⟨a, ha, e⟩ => (HBk11.out.below HX11.out).q3 a ha e.symm)).trans (HBk11.out.below HX11.out).blk) 2; clear hr ho hA d2)
      | fail)
    have HD13 := Aside0.mk ((HD10.out.below HX11.out).book ⟨_, _, _, _, _, _, _, _, _, HP11.out.1.mono (fun _ hk => okx_set hk)⟩ HP11.out.2)
    have BK13' := blk_below BK10.out HX11.out
    have BK13 : Aside0 ((w12.setCell ⟨q, 2, none⟩ (.slice A11 (n3_11 + 1) c11)).heap[g1]? = some (.cells #[.int .i64 kind, .string sA, .string sB, .slice B mB cB, .int .i64 N] 44 (0, 0))) := Aside0.mk ((heap_not (ne_kind (HO11.out.block g1 (blk_lt BK13') (fun ⟨a, ha, e⟩ => Own_kind (HBk11.out.below HX11.out).r3 a ha BK13' (by decide) e) |>.trans BK13') ((HO11.out.block q (blk_lt (HBk11.out.below HX11.out).blk) (fun ⟨a, ha, e⟩ => (HBk11.out.below HX11.out).q3 a ha e.symm)).trans (HBk11.out.below HX11.out).blk) (fun e => by injection e with _ e; exact absurd e (by decide)))).trans ((HO11.out.block g1 (blk_lt BK13') (fun ⟨a, ha, e⟩ => Own_kind (HBk11.out.below HX11.out).r3 a ha BK13' (by decide) e)).trans BK13'))
    clear BK13' HBk11 HP11 HO11 HX11 e2 f2
    generalize w12.setCell ⟨q, 2, none⟩ (.slice A11 (n3_11 + 1) c11) = w13 at *
    have hsz : ¬ 9223372036854775807 < (bs []).size + (strOfNums xs).size := by rw [strOfNums_size, (HC.out w (Only.refl _ _)).1, bs_size]; have := HCat.out; simp; omega
    obtain ⟨A1, A2, A3, n1, n2, n3, c1, c2, c3, hbk0⟩ := HD13.out.bk
    have hbk : BkMs w13 _ q ⟨b.names ++ [s], b.bytes ++ [[]], b.syn ++ [0]⟩ A1 A2 A3 n1 n2 n3 c1 c2 c3 := hbk0
    obtain ⟨g2, e2, -, -, hc2, hf2⟩ := hbk.r2.at n3_11 [] (by have := HL.out.2.1; subst this; simp)
    have hl2 : (⟨b.names ++ [s], b.bytes ++ [[]], b.syn ++ [0]⟩ : BS).bytes.length = n2 := hbk.r2.len
    have hil2 : (n3_11 : Int) < (n2 : Int) := by
      have h1 := (List.getElem?_eq_some_iff.1 (show (⟨b.names ++ [s], b.bytes ++ [[]], b.syn ++ [0]⟩ : BS).bytes[n3_11]? = some [] from (by have := HL.out.2.1; subst this; simp))).1
      omega
    subst e2
    have HG := Aside0.mk (Own_kind hbk.r2 _ rfl BK13.out (by decide))
    have d1 : w13.cell? ⟨q, 1, none⟩ = some (.slice (some ⟨g2, 0, none⟩) n2 c2) := (blk_cell hbk.blk 1).trans rfl
    have hy : w13.cell? ⟨g2, n3_11, none⟩ = some (.string (bs [])) := hc2
    have ho3 : w13.cell? ⟨g1, 3, none⟩ = some (.slice B mB cB) := (blk_cell BK13.out 3).trans rfl
    have HSet := Aside0.mk (set_new hbk rfl HL.out.2.1 (strOfNums xs).data.toList)
    have HSt := Aside0.mk (Kd.C_string Try.underlying22 Try.underlying5 Try.underlying9 (c := cB) (Kd.C_drew (HC.out _ HD13.out.only)))
    clear hbk hbk0 hc2 hl2
    refine start_ (n := 18) (S := fun w' => w'.cell? ⟨q, 1, none⟩ = some (.slice (some ⟨g2, 0, none⟩) n2 c2) ∧ w'.cell? ⟨g2, n3_11, none⟩ = some (.string (bs [])) ∧ w'.frozen? ⟨g2, n3_11, none⟩ = false ∧ w'.cell? ⟨g1, 3, none⟩ = some (.slice B mB cB) ∧ (convert 22 9 (.slice B mB cB)).run Try.prog w' = .ok (.string (strOfNums xs)) w') (ds := [17]) #[false, false, false, false, false, false, false, false, false, false, false, false, false, false, false, false, false, false] (by kernel_rfl) rfl rfl ⟨d1, hy, hf2, ho3, HSt.out⟩ (fun hHeld => ?_)
    refine pure_ (i := 0) (N := some 64) (v := ?_) (a' := ?_) #[true, false, false, false, false, false, false, false, false, false, false, false, false, false, false, false, false, false] rfl rfl (by kernel_rfl) (fun _ _ _ h => h) (Or.inl ⟨by rfl, ?_⟩) ?_ ?_
    rotate_left
    · intro w'
      go_simp
      with_reducible rfl
    rotate_left
    · simp only [Act.put, List.setIfInBounds_toArray, List.set_cons_zero, List.set_cons_succ, i64_w, i32_w]
      rfl
    refine pure_ (i := 1) (N := some 65) (v := ?_) (a' := ?_) #[true, true, false, false, false, false, false, false, false, false, false, false, false, false, false, false, false, false] rfl rfl (by kernel_rfl) (fun _ _ _ h => h) (Or.inl ⟨by rfl, ?_⟩) ?_ ?_
    rotate_left
    · intro w'
      go_simp
      with_reducible rfl
    rotate_left
    · simp only [Act.put, List.setIfInBounds_toArray, List.set_cons_zero, List.set_cons_succ, i64_w, i32_w]
      rfl
    refine pure_ (i := 2) (N := some 66) (v := ?_) (a' := ?_) #[true, true, true, false, false, false, false, false, false, false, false, false, false, false, false, false, false, false] rfl rfl (by kernel_rfl) (fun _ _ _ h => h) (Or.inl ⟨by rfl, ?_⟩) ?_ ?_
    rotate_left
    · intro w'
      go_simp
      with_reducible rfl
    rotate_left
    · simp only [Act.put, List.setIfInBounds_toArray, List.set_cons_zero, List.set_cons_succ, i64_w, i32_w]
      rfl
    refine pure_ (i := 4) (N := some 68) (v := ?_) (a' := ?_) #[true, true, true, false, true, false, false, false, false, false, false, false, false, false, false, false, false, false] rfl rfl (by kernel_rfl) (fun _ _ _ h => h) (Or.inl ⟨by rfl, ?_⟩) ?_ ?_
    rotate_left
    · intro w'
      go_simp
      with_reducible rfl
    rotate_left
    · simp only [Act.put, List.setIfInBounds_toArray, List.set_cons_zero, List.set_cons_succ, i64_w, i32_w]
      rfl
    refine pure_ (i := 5) (N := some 69) (v := ?_) (a' := ?_) #[true, true, true, false, true, true, false, false, false, false, false, false, false, false, false, false, false, false] rfl rfl (by kernel_rfl) (fun _ _ _ h => h) (Or.inl ⟨by rfl, ?_⟩) ?_ ?_
    rotate_left
    · intro w'
      go_simp
      with_reducible rfl
    rotate_left
    · simp only [Act.put, List.setIfInBounds_toArray, List.set_cons_zero, List.set_cons_succ, i64_w, i32_w]
      rfl
    refine pure_ (i := 6) (N := some 70) (v := ?_) (a' := ?_) #[true, true, true, false, true, true, true, false, false, false, false, false, false, false, false, false, false, false] rfl rfl (by kernel_rfl) (fun _ _ _ h => h) (Or.inl ⟨by rfl, ?_⟩) ?_ ?_
    rotate_left
    · intro w'
      go_simp
      with_reducible rfl
    rotate_left
    · simp only [Act.put, List.setIfInBounds_toArray, List.set_cons_zero, List.set_cons_succ, i64_w, i32_w]
      rfl
    refine pure_ (i := 7) (N := some 71) (v := ?_) (a' := ?_) #[true, true, true, false, true, true, true, true, false, false, false, false, false, false, false, false, false, false] rfl rfl (by kernel_rfl) (fun _ _ _ h => h) (Or.inl ⟨by rfl, ?_⟩) ?_ ?_
    rotate_left
    · intro w'
      go_simp
      with_reducible rfl
    rotate_left
    · simp only [Act.put, List.setIfInBounds_toArray, List.set_cons_zero, List.set_cons_succ, i64_w, i32_w]
      rfl
    refine pure_ (i := 9) (N := some 73) (v := ?_) (a' := ?_) #[true, true, true, false, true, true, true, true, false, true, false, false, false, false, false, false, false, false] rfl rfl (by kernel_rfl) (fun _ _ _ h => h) (Or.inl ⟨by rfl, ?_⟩) ?_ ?_
    rotate_left
    · intro w'
      go_simp
      with_reducible rfl
    rotate_left
    · simp only [Act.put, List.setIfInBounds_toArray, List.set_cons_zero, List.set_cons_succ, i64_w, i32_w]
      rfl
    refine pure_ (i := 12) (N := some 76) (v := ?_) (a' := ?_) #[true, true, true, false, true, true, true, true, false, true, false, false, true, false, false, false, false, false] rfl rfl (by kernel_rfl) (fun _ _ _ h => h) (Or.inl ⟨by rfl, ?_⟩) ?_ ?_
    rotate_left
    · intro w'
      go_simp
      with_reducible rfl
    rotate_left
    · simp only [Act.put, List.setIfInBounds_toArray, List.set_cons_zero, List.set_cons_succ, i64_w, i32_w]
      rfl
    refine take_ (i := 3) (N := some 67) (v := ?_) (a' := ?_) #[true, true, true, true, true, true, true, true, false, true, false, false, true, false, false, false, false, false] rfl rfl (by kernel_rfl) (fun _ _ _ h => h) (Or.inl ⟨by rfl, ?_⟩) hHeld ?_ ?_
    rotate_left
    · rintro w' ⟨s0, s1, s2, s3, s4⟩
      go_simp
      with_reducible rfl
    rotate_left
    · simp only [Act.put, List.setIfInBounds_toArray, List.set_cons_zero, List.set_cons_succ, i64_w, i32_w]
      rfl
    refine take_ (i := 8) (N := some 72) (v := ?_) (a' := ?_) #[true, true, true, true, true, true, true, true, true, true, false, false, true, false, false, false, false, false] rfl rfl (by kernel_rfl) (fun _ _ _ h => h) (Or.inl ⟨by rfl, ?_⟩) hHeld ?_ ?_
    rotate_left
    · rintro w' ⟨s0, s1, s2, s3, s4⟩
      go_simp
      with_reducible rfl
    rotate_left
    · simp only [Act.put, List.setIfInBounds_toArray, List.set_cons_zero, List.set_cons_succ, i64_w, i32_w]
      rfl
    refine pure_ (i := 10) (N := some 74) (v := ?_) (a' := ?_) #[true, true, true, true, true, true, true, true, true, true, true, false, true, false, false, false, false, false] rfl rfl (by kernel_rfl) (fun _ _ _ h => h) (Or.inl ⟨by rfl, ?_⟩) ?_ ?_
    rotate_left
    · intro w'
      go_simp
      with_reducible rfl
    rotate_left
    · simp only [Act.put, List.setIfInBounds_toArray, List.set_cons_zero, List.set_cons_succ, i64_w, i32_w]
      rfl
    refine take_ (i := 11) (N := some 75) (v := ?_) (a' := ?_) #[true, true, true, true, true, true, true, true, true, true, true, true, true, false, false, false, false, false] rfl rfl (by kernel_rfl) (fun _ _ _ h => h) (Or.inl ⟨by rfl, ?_⟩) hHeld ?_ ?_
    rotate_left
    · rintro w' ⟨s0, s1, s2, s3, s4⟩
      go_simp
      with_reducible rfl
    rotate_left
    · simp only [Act.put, List.setIfInBounds_toArray, List.set_cons_zero, List.set_cons_succ, i64_w, i32_w]
      rfl
    refine take_ (i := 13) (N := some 77) (v := ?_) (a' := ?_) #[true, true, true, true, true, true, true, true, true, true, true, true, true, true, false, false, false, false] rfl rfl (by kernel_rfl) (fun _ _ _ h => h) (Or.inl ⟨by rfl, ?_⟩) hHeld ?_ ?_
    rotate_left
    · rintro w' ⟨s0, s1, s2, s3, s4⟩
      go_simp
      with_reducible rfl
    rotate_left
    · simp only [Act.put, List.setIfInBounds_toArray, List.set_cons_zero, List.set_cons_succ, i64_w, i32_w]
      rfl
    refine take_ (i := 14) (N := some 78) (v := ?_) (a' := ?_) #[true, true, true, true, true, true, true, true, true, true, true, true, true, true, true, false, false, false] rfl rfl (by kernel_rfl) (fun _ _ _ h => h) (Or.inl ⟨by rfl, ?_⟩) hHeld ?_ ?_
    rotate_left
    · rintro w' ⟨s0, s1, s2, s3, s4⟩
      go_simp
      with_reducible rfl
    rotate_left
    · simp only [Act.put, List.setIfInBounds_toArray, List.set_cons_zero, List.set_cons_succ, i64_w, i32_w]
      rfl
    refine pure_ (i := 15) (N := some 79) (v := ?_) (a' := ?_) #[true, true, true, true, true, true, true, true, true, true, true, true, true, true, true, true, false, false] rfl rfl (by kernel_rfl) (fun _ _ _ h => h) (Or.inl ⟨by rfl, ?_⟩) ?_ ?_
    rotate_left
    · intro w'
      go_simp
      with_reducible rfl
    rotate_left
    · simp only [Act.put, List.setIfInBounds_toArray, List.set_cons_zero, List.set_cons_succ, i64_w, i32_w]
      rfl
    refine pure_ (i := 16) (N := some 80) (v := ?_) (a' := ?_) #[true, true, true, true, true, true, true, true, true, true, true, true, true, true, true, true, true, false] rfl rfl (by kernel_rfl) (fun _ _ _ h => h) (Or.inl ⟨by rfl, ?_⟩) ?_ ?_
    rotate_left
    · intro w'
      go_simp
      with_reducible rfl
    rotate_left
    · simp only [Act.put, List.setIfInBounds_toArray, List.set_cons_zero, List.set_cons_succ, i64_w, i32_w]
      rfl
    refine last_ (i := 17) (N := none) #[true, true, true, true, true, true, true, true, true, true, true, true, true, true, true, true, true, true] rfl rfl (by kernel_rfl) (by decide) (fun K hK => ?_)
    refine skip_ (w1 := ?_) (by rfl) rfl ?_ ?_
    rotate_left
    · go_simp
      rfl
    refine hK.out _ _ ?_
    clear hK K
    refine done_ (by kernel_rfl) ?_
    clear hHeld d1 hy hf2 ho3 HSt
    rw [cat_ts]
    have HD33 := Aside0.mk (HD13.out.book ⟨_, _, _, _, _, _, _, _, _, (HSet.out.1.below (drew_below _)).mono (fun _ hk => .inl hk)⟩ HSet.out.2.drew)
    have BK33 : Aside0 (((w13.setCell ⟨g2, n3_11, none⟩ (.string (bs ([] ++ (strOfNums xs).data.toList)))).drew).heap[g1]? = some (.cells #[.int .i64 kind, .string sA, .string sB, .slice B mB cB, .int .i64 N] 44 (0, 0))) := Aside0.mk ((heap_not HG.out).trans BK13.out)
    clear HSet HG
    generalize (w13.setCell ⟨g2, n3_11, none⟩ (.string (bs ([] ++ (strOfNums xs).data.toList)))).drew = w33 at *
    have ho3 : w33.cell? ⟨g1, 3, none⟩ = some (.slice B mB cB) := (blk_cell BK33.out 3).trans rfl
    go_wp2_with fail
    refine (append_calls w33 _ p mB cB d s B xs HD33.out.dk HSh.out HOp.out (HC.out _ HD33.out.only) HFit.out).mono ?_
    rintro e w34 ⟨rfl, hd, ho⟩
    have HD34 := Aside0.mk (HD33.out.disk hd ho)
    clear hd ho ho3 HD33
    obtain ⟨⟨d6, r6⟩, hrs⟩ : ∃ rs, rs = appendS d s xs := ⟨_, rfl⟩
    rw [← hrs] at HD34 ⊢
    have HRs := Aside0.mk hrs.symm
    clear hrs
    simp only at HD34 ⊢
    have HE := Aside0.mk (show noteAppend d b s xs = (d6, ⟨b.names ++ [s], b.bytes ++ [txtI xs], b.syn ++ [0]⟩, r6 == 0) by unfold noteAppend BS.put; rw [HRs.out, if_neg (by rw [← HIx.out]; omega)])
    go_wp2_with fail
    go_ret
    rw [HE.out]
    exact ⟨rfl, _, _, HD34.out⟩
  · have hx1 : decide (ix < 0) = false := decide_eq_false hx
    have HIx0 := Aside0.mk (show 0 ≤ ix by omega)
    obtain ⟨i, hi, hil, -⟩ := idxT_nat (names := b.names) (s := s) (by rw [← HIx.out]; exact HIx0.out)
    obtain rfl : ix = (i : Int) := HIx.out.trans hi
    rw [hi, Int.toNat_natCast] at HCat
    rw [HL.out.1] at hil
    clear hi hx HIx0
    have HY := Aside0.mk (show b.bytes[i]? = some (b.bytes.getD i []) by rw [List.getD_eq_getElem?_getD, List.getElem?_eq_getElem (by rw [HL.out.2.1]; exact hil)]; rfl)
    obtain ⟨y, hyy⟩ : ∃ y, y = b.bytes.getD i [] := ⟨_, rfl⟩
    have HYe := Aside0.mk hyy
    rw [← hyy] at HY HCat
    have hsz : ¬ 9223372036854775807 < (bs y).size + (strOfNums xs).size := by rw [strOfNums_size, (HC.out w (Only.refl _ _)).1, bs_size]; have := HCat.out; omega
    clear hyy
    go_wp2_with fail
    obtain ⟨A1, A2, A3, n1, n2, n3, c1, c2, c3, hbk0⟩ := HD4.out.bk
    have hbk : BkMs w4 _ q b A1 A2 A3 n1 n2 n3 c1 c2 c3 := hbk0
    obtain ⟨g2, e2, -, -, hc2, hf2⟩ := hbk.r2.at i y HY.out
    have hl2 : (b : BS).bytes.length = n2 := hbk.r2.len
    have hil2 : (i : Int) < (n2 : Int) := by
      have h1 := (List.getElem?_eq_some_iff.1 (show (b : BS).bytes[i]? = some y from HY.out)).1
      omega
    subst e2
    have HG := Aside0.mk (Own_kind hbk.r2 _ rfl BK4.out (by decide))
    have d1 : w4.cell? ⟨q, 1, none⟩ = some (.slice (some ⟨g2, 0, none⟩) n2 c2) := (blk_cell hbk.blk 1).trans rfl
    have hy : w4.cell? ⟨g2, i, none⟩ = some (.string (bs y)) := hc2
    have ho3 : w4.cell? ⟨g1, 3, none⟩ = some (.slice B mB cB) := (blk_cell BK4.out 3).trans rfl
    have HSet := Aside0.mk (hbk.set2 rfl i (y ++ (strOfNums xs).data.toList))
    have HSt := Aside0.mk (Kd.C_string Try.underlying22 Try.underlying5 Try.underlying9 (c := cB) (Kd.C_drew (HC.out _ HD4.out.only)))
    clear hbk hbk0 hc2 hl2
    refine start_ (n := 18) (S := fun w' => w'.cell? ⟨q, 1, none⟩ = some (.slice (some ⟨g2, 0, none⟩) n2 c2) ∧ w'.cell? ⟨g2, i, none⟩ = some (.string (bs y)) ∧ w'.frozen? ⟨g2, i, none⟩ = false ∧ w'.cell? ⟨g1, 3, none⟩ = some (.slice B mB cB) ∧ (convert 22 9 (.slice B mB cB)).run Try.prog w' = .ok (.string (strOfNums xs)) w') (ds := [17]) #[false, false, false, false, false, false, false, false, false, false, false, false, false, false, false, false, false, false] (by kernel_rfl) rfl rfl ⟨d1, hy, hf2, ho3, HSt.out⟩ (fun hHeld => ?_)
    refine pure_ (i := 0) (N := some 64) (v := ?_) (a' := ?_) #[true, false, false, false, false, false, false, false, false, false, false, false, false, false, false, false, false, false] rfl rfl (by kernel_rfl) (fun _ _ _ h => h) (Or.inl ⟨by rfl, ?_⟩) ?_ ?_
    rotate_left
    · intro w'
      go_simp
      with_reducible rfl
    rotate_left
    · simp only [Act.put, List.setIfInBounds_toArray, List.set_cons_zero, List.set_cons_succ, i64_w, i32_w]
      rfl
    refine pure_ (i := 1) (N := some 65) (v := ?_) (a' := ?_) #[true, true, false, false, false, false, false, false, false, false, false, false, false, false, false, false, false, false] rfl rfl (by kernel_rfl) (fun _ _ _ h => h) (Or.inl ⟨by rfl, ?_⟩) ?_ ?_
    rotate_left
    · intro w'
      go_simp
      with_reducible rfl
    rotate_left
    · simp only [Act.put, List.setIfInBounds_toArray, List.set_cons_zero, List.set_cons_succ, i64_w, i32_w]
      rfl
    refine pure_ (i := 2) (N := some 66) (v := ?_) (a' := ?_) #[true, true, true, false, false, false, false, false, false, false, false, false, false, false, false, false, false, false] rfl rfl (by kernel_rfl) (fun _ _ _ h => h) (Or.inl ⟨by rfl, ?_⟩) ?_ ?_
    rotate_left
    · intro w'
      go_simp
      with_reducible rfl
    rotate_left
    · simp only [Act.put, List.setIfInBounds_toArray, List.set_cons_zero, List.set_cons_succ, i64_w, i32_w]
      rfl
    refine pure_ (i := 4) (N := some 68) (v := ?_) (a' := ?_) #[true, true, true, false, true, false, false, false, false, false, false, false, false, false, false, false, false, false] rfl rfl (by kernel_rfl) (fun _ _ _ h => h) (Or.inl ⟨by rfl, ?_⟩) ?_ ?_
    rotate_left
    · intro w'
      go_simp
      with_reducible rfl
    rotate_left
    · simp only [Act.put, List.setIfInBounds_toArray, List.set_cons_zero, List.set_cons_succ, i64_w, i32_w]
      rfl
    refine pure_ (i := 5) (N := some 69) (v := ?_) (a' := ?_) #[true, true, true, false, true, true, false, false, false, false, false, false, false, false, false, false, false, false] rfl rfl (by kernel_rfl) (fun _ _ _ h => h) (Or.inl ⟨by rfl, ?_⟩) ?_ ?_
    rotate_left
    · intro w'
      go_simp
      with_reducible rfl
    rotate_left
    · simp only [Act.put, List.setIfInBounds_toArray, List.set_cons_zero, List.set_cons_succ, i64_w, i32_w]
      rfl
    refine pure_ (i := 6) (N := some 70) (v := ?_) (a' := ?_) #[true, true, true, false, true, true, true, false, false, false, false, false, false, false, false, false, false, false] rfl rfl (by kernel_rfl) (fun _ _ _ h => h) (Or.inl ⟨by rfl, ?_⟩) ?_ ?_
    rotate_left
    · intro w'
      go_simp
      with_reducible rfl
    rotate_left
    · simp only [Act.put, List.setIfInBounds_toArray, List.set_cons_zero, List.set_cons_succ, i64_w, i32_w]
      rfl
    refine pure_ (i := 7) (N := some 71) (v := ?_) (a' := ?_) #[true, true, true, false, true, true, true, true, false, false, false, false, false, false, false, false, false, false] rfl rfl (by kernel_rfl) (fun _ _ _ h => h) (Or.inl ⟨by rfl, ?_⟩) ?_ ?_
    rotate_left
    · intro w'
      go_simp
      with_reducible rfl
    rotate_left
    · simp only [Act.put, List.setIfInBounds_toArray, List.set_cons_zero, List.set_cons_succ, i64_w, i32_w]
      rfl
    refine pure_ (i := 9) (N := some 73) (v := ?_) (a' := ?_) #[true, true, true, false, true, true, true, true, false, true, false, false, false, false, false, false, false, false] rfl rfl (by kernel_rfl) (fun _ _ _ h => h) (Or.inl ⟨by rfl, ?_⟩) ?_ ?_
    rotate_left
    · intro w'
      go_simp
      with_reducible rfl
    rotate_left
    · simp only [Act.put, List.setIfInBounds_toArray, List.set_cons_zero, List.set_cons_succ, i64_w, i32_w]
      rfl
    refine pure_ (i := 12) (N := some 76) (v := ?_) (a' := ?_) #[true, true, true, false, true, true, true, true, false, true, false, false, true, false, false, false, false, false] rfl rfl (by kernel_rfl) (fun _ _ _ h => h) (Or.inl ⟨by rfl, ?_⟩) ?_ ?_
    rotate_left
    · intro w'
      go_simp
      with_reducible rfl
    rotate_left
    · simp only [Act.put, List.setIfInBounds_toArray, List.set_cons_zero, List.set_cons_succ, i64_w, i32_w]
      rfl
    refine take_ (i := 3) (N := some 67) (v := ?_) (a' := ?_) #[true, true, true, true, true, true, true, true, false, true, false, false, true, false, false, false, false, false] rfl rfl (by kernel_rfl) (fun _ _ _ h => h) (Or.inl ⟨by rfl, ?_⟩) hHeld ?_ ?_
    rotate_left
    · rintro w' ⟨s0, s1, s2, s3, s4⟩
      go_simp
      with_reducible rfl
    rotate_left
    · simp only [Act.put, List.setIfInBounds_toArray, List.set_cons_zero, List.set_cons_succ, i64_w, i32_w]
      rfl
    refine take_ (i := 8) (N := some 72) (v := ?_) (a' := ?_) #[true, true, true, true, true, true, true, true, true, true, false, false, true, false, false, false, false, false] rfl rfl (by kernel_rfl) (fun _ _ _ h => h) (Or.inl ⟨by rfl, ?_⟩) hHeld ?_ ?_
    rotate_left
    · rintro w' ⟨s0, s1, s2, s3, s4⟩
      go_simp
      with_reducible rfl
    rotate_left
    · simp only [Act.put, List.setIfInBounds_toArray, List.set_cons_zero, List.set_cons_succ, i64_w, i32_w]
      rfl
    refine pure_ (i := 10) (N := some 74) (v := ?_) (a' := ?_) #[true, true, true, true, true, true, true, true, true, true, true, false, true, false, false, false, false, false] rfl rfl (by kernel_rfl) (fun _ _ _ h => h) (Or.inl ⟨by rfl, ?_⟩) ?_ ?_
    rotate_left
    · intro w'
      go_simp
      with_reducible rfl
    rotate_left
    · simp only [Act.put, List.setIfInBounds_toArray, List.set_cons_zero, List.set_cons_succ, i64_w, i32_w]
      rfl
    refine take_ (i := 11) (N := some 75) (v := ?_) (a' := ?_) #[true, true, true, true, true, true, true, true, true, true, true, true, true, false, false, false, false, false] rfl rfl (by kernel_rfl) (fun _ _ _ h => h) (Or.inl ⟨by rfl, ?_⟩) hHeld ?_ ?_
    rotate_left
    · rintro w' ⟨s0, s1, s2, s3, s4⟩
      go_simp
      with_reducible rfl
    rotate_left
    · simp only [Act.put, List.setIfInBounds_toArray, List.set_cons_zero, List.set_cons_succ, i64_w, i32_w]
      rfl
    refine take_ (i := 13) (N := some 77) (v := ?_) (a' := ?_) #[true, true, true, true, true, true, true, true, true, true, true, true, true, true, false, false, false, false] rfl rfl (by kernel_rfl) (fun _ _ _ h => h) (Or.inl ⟨by rfl, ?_⟩) hHeld ?_ ?_
    rotate_left
    · rintro w' ⟨s0, s1, s2, s3, s4⟩
      go_simp
      with_reducible rfl
    rotate_left
    · simp only [Act.put, List.setIfInBounds_toArray, List.set_cons_zero, List.set_cons_succ, i64_w, i32_w]
      rfl
    refine take_ (i := 14) (N := some 78) (v := ?_) (a' := ?_) #[true, true, true, true, true, true, true, true, true, true, true, true, true, true, true, false, false, false] rfl rfl (by kernel_rfl) (fun _ _ _ h => h) (Or.inl ⟨by rfl, ?_⟩) hHeld ?_ ?_
    rotate_left
    · rintro w' ⟨s0, s1, s2, s3, s4⟩
      go_simp
      with_reducible rfl
    rotate_left
    · simp only [Act.put, List.setIfInBounds_toArray, List.set_cons_zero, List.set_cons_succ, i64_w, i32_w]
      rfl
    refine pure_ (i := 15) (N := some 79) (v := ?_) (a' := ?_) #[true, true, true, true, true, true, true, true, true, true, true, true, true, true, true, true, false, false] rfl rfl (by kernel_rfl) (fun _ _ _ h => h) (Or.inl ⟨by rfl, ?_⟩) ?_ ?_
    rotate_left
    · intro w'
      go_simp
      with_reducible rfl
    rotate_left
    · simp only [Act.put, List.setIfInBounds_toArray, List.set_cons_zero, List.set_cons_succ, i64_w, i32_w]
      rfl
    refine pure_ (i := 16) (N := some 80) (v := ?_) (a' := ?_) #[true, true, true, true, true, true, true, true, true, true, true, true, true, true, true, true, true, false] rfl rfl (by kernel_rfl) (fun _ _ _ h => h) (Or.inl ⟨by rfl, ?_⟩) ?_ ?_
    rotate_left
    · intro w'
      go_simp
      with_reducible rfl
    rotate_left
    · simp only [Act.put, List.setIfInBounds_toArray, List.set_cons_zero, List.set_cons_succ, i64_w, i32_w]
      rfl
    refine last_ (i := 17) (N := none) #[true, true, true, true, true, true, true, true, true, true, true, true, true, true, true, true, true, true] rfl rfl (by kernel_rfl) (by decide) (fun K hK => ?_)
    refine skip_ (w1 := ?_) (by rfl) rfl ?_ ?_
    rotate_left
    · go_simp
      rfl
    refine hK.out _ _ ?_
    clear hK K
    refine done_ (by kernel_rfl) ?_
    clear hHeld d1 hy hf2 ho3 HSt
    rw [cat_ts]
    have HD24 := Aside0.mk (HD4.out.book ⟨_, _, _, _, _, _, _, _, _, (HSet.out.1.below (drew_below _)).mono (fun _ hk => .inl hk)⟩ HSet.out.2.drew)
    have BK24 : Aside0 (((w4.setCell ⟨g2, i, none⟩ (.string (bs (y ++ (strOfNums xs).data.toList)))).drew).heap[g1]? = some (.cells #[.int .i64 kind, .string sA, .string sB, .slice B mB cB, .int .i64 N] 44 (0, 0))) := Aside0.mk ((heap_not HG.out).trans BK4.out)
    clear HSet HG
    generalize (w4.setCell ⟨g2, i, none⟩ (.string (bs (y ++ (strOfNums xs).data.toList)))).drew = w24 at *
    have ho3 : w24.cell? ⟨g1, 3, none⟩ = some (.slice B mB cB) := (blk_cell BK24.out 3).trans rfl
    go_wp2_with fail
    refine (append_calls w24 _ p mB cB d s B xs HD24.out.dk HSh.out HOp.out (HC.out _ HD24.out.only) HFit.out).mono ?_
    rintro e w25 ⟨rfl, hd, ho⟩
    have HD25 := Aside0.mk (HD24.out.disk hd ho)
    clear hd ho ho3 HD24
    obtain ⟨⟨d6, r6⟩, hrs⟩ : ∃ rs, rs = appendS d s xs := ⟨_, rfl⟩
    rw [← hrs] at HD25 ⊢
    have HRs := Aside0.mk hrs.symm
    clear hrs
    simp only at HD25 ⊢
    have HE := Aside0.mk (show noteAppend d b s xs = (d6, { b with bytes := b.bytes.set i (y ++ txtI xs) }, r6 == 0) by unfold noteAppend BS.put; rw [HRs.out, ← HIx.out, if_pos (by omega), Int.toNat_natCast, ← HYe.out])
    go_wp2_with fail
    go_ret
    rw [HE.out]
    exact ⟨rfl, _, _, HD25.out⟩
end Go.Proofs.Ytabomfmjepmkjaa.Dk
end

section
namespace Go.Proofs.Ytabomfmjepmkjaa.Dk
set_option linter.unusedVariables false
set_option linter.unusedSimpArgs false
open Go.RowKit Go.Proofs.YtabomfmjepmkjaaW.PrintWords Go.Proofs.YtabomfmjepmkjaaW.PrintLast Go.Proofs.YtabomfmjepmkjaaW.PrintMore Go.Proofs.Ytabomfmjepmkjaa.Lib Go.Proofs.Ytabomfmjepmkjaa.Mem Go.Proofs.Ytabomfmjepmkjaa.Txt
open Go.MapKept Go.ChangeMaps
set_option maxRecDepth 100000 in
set_option maxHeartbeats 3200000 in
theorem note_append1 (w : World) (Od Ob : Nat → Prop) (p q : Nat) (d : DS) (b : BS) (kind a N : Int) (sA sB : ByteArray) (B : Option Addr) (mB cB n : Nat) (xs : List Int) (hd : DkAt w Od p d) (hb : BkAt w Ob q b) (hap : ∀ k, Od k → ¬ Ob k)
    (hl1 : b.names.length = n) (hl2 : b.bytes.length = n) (hl3 : b.syn.length = n) (hn : n < 1000000) (hA : sA.size < 4611686018427387904) (hB : sB.size < 4611686018427387904) (hC : ∀ w', Only (fun k => Od k ∨ Ob k) w w' → Kd.C (Kd.int .u8) w' B mB xs) (ha : P.gristmilllaw12_abs.f kind = some a) (hk : Int.tmod a 6 = 1) (ho : ops62 d) (hfit : ((look d.fs (nameT sA.size)).getD ([], 0)).1.length + mB ≤ 140737488355328) (hcat : (b.bytes.getD (idxT b.names (nameT sA.size)).toNat []).length + mB ≤ 9223372036854775807) :
    Calls Try.prog 20 #[.pointer (some ⟨q, 0, none⟩), .pointer (some ⟨p, 0, none⟩), .agg #[.int .i64 kind, .string sA, .string sB, .slice B mB cB, .int .i64 N]] w fun e w' => e = .returned (.bool (noteAppend d b (nameT sA.size) xs).2.2) ∧ Noted w w' Od Ob p q (noteAppend d b (nameT sA.size) xs).1 (noteAppend d b (nameT sA.size) xs).2.1 := by
  have HD0 := Aside0.mk (DB.start hd hb hap)
  have HL := Aside0.mk (And.intro hl1 (And.intro hl2 hl3))
  have HN := Aside0.mk hn
  have HAb := Aside0.mk ha
  have HOp := Aside0.mk ho
  have HC := Aside0.mk hC
  have HB := Aside0.mk hB
  have HName := Aside0.mk (name_f sA.size (by omega))
  have HSh := Aside0.mk (show Shorts [nameT sA.size] from fun t ht => by rw [List.mem_singleton.1 ht]; have := nameT_len sA.size; omega)
  have HNd := Aside0.mk (nameT_named sA.size)
  have HFit := Aside0.mk hfit
  have HCat := Aside0.mk hcat
  clear hfit hcat
  generalize nameT sA.size = s at *
  clear hd hb hap hl1 hl2 hl3 ha ho hC hB hA hn
  go_enter Try.func20, Try.ntmps20
  go_wp2_with (first
    | (((with_reducible refine gate_dst (N := 5) rfl ?_); refine box_event ?hg (N := 5) ?hd (cs := #[.int .i64 kind, .string sA, .string sB, .slice B mB cB, .int .i64 N]) (t := 44) ?hr ?_; (case hd => rfl); (case hg => rfl); (case hr => first | (go_simp; done) | (go_simp; rfl)); intro g1 hg w1 hbox hb; have GE1 := Aside0.mk (Nat.le_of_eq hg.symm); have BK1 := Aside0.mk hbox; have HX1 := Aside0.mk hb; clear hg hbox hb); (have hg1_0 : w1.cell? ⟨g1, 0, none⟩ = some (.int .i64 kind) := (blk_cell BK1.out 0).trans rfl; have hfg1_0 := blk_frozen BK1.out 0; have hg1_1 : w1.cell? ⟨g1, 1, none⟩ = some (.string sA) := (blk_cell BK1.out 1).trans rfl; have hfg1_1 := blk_frozen BK1.out 1; have hg1_2 : w1.cell? ⟨g1, 2, none⟩ = some (.string sB) := (blk_cell BK1.out 2).trans rfl; have hfg1_2 := blk_frozen BK1.out 2; have hg1_3 : w1.cell? ⟨g1, 3, none⟩ = some (.slice B mB cB) := (blk_cell BK1.out 3).trans rfl; have hfg1_3 := blk_frozen BK1.out 3; have hg1_4 : w1.cell? ⟨g1, 4, none⟩ = some (.int .i64 N) := (blk_cell BK1.out 4).trans rfl; have hfg1_4 := blk_frozen BK1.out 4))
    | fail)
  refine (P.gristmilllaw12_name.calls (sA.size : Int) (bs s) w1 HName.out).mono ?_
  rintro e w2 ⟨rfl, hb2⟩
  have BK2 := Aside0.mk (blk_below BK1.out hb2)
  have HD2 := Aside0.mk ((HD0.out.below HX1.out).below hb2)
  clear hg1_0 hfg1_0 hg1_1 hfg1_1 hg1_2 hfg1_2 hg1_3 hfg1_3 hg1_4 hfg1_4
  clear hb2 HD0 HX1
  go_wp2_with fail
  refine (at_calls w2 _ q b s HD2.out.bk (by rw [HL.out.1]; exact HN.out)).mono ?_
  rintro e w3 ⟨rfl, hb3⟩
  have BK3 := Aside0.mk (blk_below BK2.out hb3)
  have HD3 := Aside0.mk (HD2.out.below hb3)
  clear hb3 HD2
  (have hg1_0 : w3.cell? ⟨g1, 0, none⟩ = some (.int .i64 kind) := (blk_cell BK3.out 0).trans rfl; have hfg1_0 := blk_frozen BK3.out 0; have hg1_1 : w3.cell? ⟨g1, 1, none⟩ = some (.string sA) := (blk_cell BK3.out 1).trans rfl; have hfg1_1 := blk_frozen BK3.out 1; have hg1_2 : w3.cell? ⟨g1, 2, none⟩ = some (.string sB) := (blk_cell BK3.out 2).trans rfl; have hfg1_2 := blk_frozen BK3.out 2; have hg1_3 : w3.cell? ⟨g1, 3, none⟩ = some (.slice B mB cB) := (blk_cell BK3.out 3).trans rfl; have hfg1_3 := blk_frozen BK3.out 3; have hg1_4 : w3.cell? ⟨g1, 4, none⟩ = some (.int .i64 N) := (blk_cell BK3.out 4).trans rfl; have hfg1_4 := blk_frozen BK3.out 4)
  go_wp2_with fail
  refine (P.gristmilllaw12_abs.calls kind a w3 HAb.out).mono ?_
  rintro e w4 ⟨rfl, hdr⟩
  have BK4 := Aside0.mk (blk_below BK3.out hdr.below)
  have HD4 := Aside0.mk (HD3.out.below hdr.below)
  clear hg1_0 hfg1_0 hg1_1 hfg1_1 hg1_2 hfg1_2 hg1_3 hfg1_3 hg1_4 hfg1_4
  clear hdr HD3
  obtain ⟨ix, hix⟩ : ∃ ix, ix = idxT b.names s := ⟨_, rfl⟩
  have HIx := Aside0.mk hix
  rw [← hix]
  clear hix
  have HLn4 := HN
  by_cases hx : ix < 0
  · have hx1 : decide (ix < 0) = true := decide_eq_true hx
    obtain ⟨A1_5, A2_5, A3_5, n1_5, n2_5, n3_5, c1_5, c2_5, c3_5, hbk⟩ := HD4.out.bk
    have HBk5 := Aside0.mk hbk
    have d0 : w4.cell? ⟨q, 0, none⟩ = some (.slice A1_5 n1_5 c1_5) := (blk_cell hbk.blk 0).trans rfl
    obtain rfl : n1_5 = n := hbk.r1.len.symm.trans HL.out.1
    clear hbk
    go_upto_region 10 with (first
      | ((with_reducible refine gate_dst (N := 42) rfl ?_); refine row_event2 ?hg (N := 42) ?hd (cs := #[.string (bs s)]) (t := 9) (n := 1) (c := 1) ?hr ?_; (case hd => rfl); (case hg => rfl); (case hr => first | (go_simp; done) | (go_simp; rfl)); intro g5 hg w5 hbox hb; have GE5 := Aside0.mk (Nat.le_of_eq hg.symm); have BK5 := Aside0.mk hbox; have HX5 := Aside0.mk hb; clear hg hbox hb)
      | ((with_reducible refine gate_builtin (b := .append) (xs := #[.tmp 40, .tmp 42]) rfl ?_); refine append_one_event eT_ok rfl rfl rfl rfl rfl (HBk5.out.below HX5.out).r1 (C_one eT_ok (x := s) BK5.out) ?_ ?_ ?_; (case refine_1 => have := HLn4.out; show (n1_5 + 1) * 16 ≤ _; omega); (case refine_2 => have := HLn4.out; omega); intro A5 c5 w6 hr ho hA; have HP5 := Aside0.mk ((HBk5.out.below HX5.out).put1 hr ho hA); have HO5 := Aside0.mk ho; have e0 : w6.cell? ⟨q, 0, none⟩ = some (.slice A1_5 n1_5 c1_5) := (blk_cell ((ho.block q (blk_lt (HBk5.out.below HX5.out).blk) (fun ⟨a, ha, e⟩ => (HBk5.out.below HX5.out).q1 a ha e.symm)).trans (HBk5.out.below HX5.out).blk) 0).trans rfl; have f0 : w6.frozen? ⟨q, 0, none⟩ = false := blk_frozen ((ho.block q (blk_lt (HBk5.out.below HX5.out).blk) (fun ⟨a, ha, e⟩ => (HBk5.out.below HX5.out).q1 a ha e.symm)).trans (HBk5.out.below HX5.out).blk) 0; clear hr ho hA d0)
      | fail)
    have HD7 := Aside0.mk ((HD4.out.below HX5.out).book ⟨_, _, _, _, _, _, _, _, _, HP5.out.1.mono (fun _ hk => okx_set hk)⟩ HP5.out.2)
    have BK7' := blk_below BK4.out HX5.out
    have BK7 : Aside0 ((w6.setCell ⟨q, 0, none⟩ (.slice A5 (n1_5 + 1) c5)).heap[g1]? = some (.cells #[.int .i64 kind, .string sA, .string sB, .slice B mB cB, .int .i64 N] 44 (0, 0))) := Aside0.mk ((heap_not (ne_kind (HO5.out.block g1 (blk_lt BK7') (fun ⟨a, ha, e⟩ => Own_kind (HBk5.out.below HX5.out).r1 a ha BK7' (by decide) e) |>.trans BK7') ((HO5.out.block q (blk_lt (HBk5.out.below HX5.out).blk) (fun ⟨a, ha, e⟩ => (HBk5.out.below HX5.out).q1 a ha e.symm)).trans (HBk5.out.below HX5.out).blk) (fun e => by injection e with _ e; exact absurd e (by decide)))).trans ((HO5.out.block g1 (blk_lt BK7') (fun ⟨a, ha, e⟩ => Own_kind (HBk5.out.below HX5.out).r1 a ha BK7' (by decide) e)).trans BK7'))
    clear BK7' HBk5 HP5 HO5 HX5 e0 f0
    generalize w6.setCell ⟨q, 0, none⟩ (.slice A5 (n1_5 + 1) c5) = w7 at *
    obtain ⟨A1_8, A2_8, A3_8, n1_8, n2_8, n3_8, c1_8, c2_8, c3_8, hbk⟩ := HD7.out.bk
    have HBk8 := Aside0.mk hbk
    have d1 : w7.cell? ⟨q, 1, none⟩ = some (.slice A2_8 n2_8 c2_8) := (blk_cell hbk.blk 1).trans rfl
    obtain rfl : n2_8 = n1_5 := hbk.r2.len.symm.trans HL.out.2.1
    clear hbk
    go_upto_region 11 with (first
      | ((with_reducible refine gate_dst (N := 51) rfl ?_); refine row_event2 ?hg (N := 51) ?hd (cs := #[.string (bs [])]) (t := 9) (n := 1) (c := 1) ?hr ?_; (case hd => rfl); (case hg => rfl); (case hr => first | (go_simp; done) | (go_simp; rfl)); intro g8 hg w8 hbox hb; have GE8 := Aside0.mk (Nat.le_of_eq hg.symm); have BK8 := Aside0.mk hbox; have HX8 := Aside0.mk hb; clear hg hbox hb)
      | ((with_reducible refine gate_builtin (b := .append) (xs := #[.tmp 50, .tmp 51]) rfl ?_); refine append_one_event eT_ok rfl rfl rfl rfl rfl (HBk8.out.below HX8.out).r2 (C_one eT_ok (x := []) BK8.out) ?_ ?_ ?_; (case refine_1 => have := HLn4.out; show (n2_8 + 1) * 16 ≤ _; omega); (case refine_2 => have := HLn4.out; omega); intro A8 c8 w9 hr ho hA; have HP8 := Aside0.mk ((HBk8.out.below HX8.out).put2 hr ho hA); have HO8 := Aside0.mk ho; have e1 : w9.cell? ⟨q, 1, none⟩ = some (.slice A2_8 n2_8 c2_8) := (blk_cell ((ho.block q (blk_lt (HBk8.out.below HX8.out).blk) (fun ⟨a, ha, e⟩ => (HBk8.out.below HX8.out).q2 a ha e.symm)).trans (HBk8.out.below HX8.out).blk) 1).trans rfl; have f1 : w9.frozen? ⟨q, 1, none⟩ = false := blk_frozen ((ho.block q (blk_lt (HBk8.out.below HX8.out).blk) (fun ⟨a, ha, e⟩ => (HBk8.out.below HX8.out).q2 a ha e.symm)).trans (HBk8.out.below HX8.out).blk) 1; clear hr ho hA d1)
      | fail)
    have HD10 := Aside0.mk ((HD7.out.below HX8.out).book ⟨_, _, _, _, _, _, _, _, _, HP8.out.1.mono (fun _ hk => okx_set hk)⟩ HP8.out.2)
    have BK10' := blk_below BK7.out HX8.out
    have BK10 : Aside0 ((w9.setCell ⟨q, 1, none⟩ (.slice A8 (n2_8 + 1) c8)).heap[g1]? = some (.cells #[.int .i64 kind, .string sA, .string sB, .slice B mB cB, .int .i64 N] 44 (0, 0))) := Aside0.mk ((heap_not (ne_kind (HO8.out.block g1 (blk_lt BK10') (fun ⟨a, ha, e⟩ => Own_kind (HBk8.out.below HX8.out).r2 a ha BK10' (by decide) e) |>.trans BK10') ((HO8.out.block q (blk_lt (HBk8.out.below HX8.out).blk) (fun ⟨a, ha, e⟩ => (HBk8.out.below HX8.out).q2 a ha e.symm)).trans (HBk8.out.below HX8.out).blk) (fun e => by injection e with _ e; exact absurd e (by decide)))).trans ((HO8.out.block g1 (blk_lt BK10') (fun ⟨a, ha, e⟩ => Own_kind (HBk8.out.below HX8.out).r2 a ha BK10' (by decide) e)).trans BK10'))
    clear BK10' HBk8 HP8 HO8 HX8 e1 f1
    generalize w9.setCell ⟨q, 1, none⟩ (.slice A8 (n2_8 + 1) c8) = w10 at *
    obtain ⟨A1_11, A2_11, A3_11, n1_11, n2_11, n3_11, c1_11, c2_11, c3_11, hbk⟩ := HD10.out.bk
    have HBk11 := Aside0.mk hbk
    have d2 : w10.cell? ⟨q, 2, none⟩ = some (.slice A3_11 n3_11 c3_11) := (blk_cell hbk.blk 2).trans rfl
    obtain rfl : n3_11 = n2_8 := hbk.r3.len.symm.trans HL.out.2.2
    clear hbk
    go_upto_region 12 with (first
      | ((with_reducible refine gate_dst (N := 60) rfl ?_); refine row_event2 ?hg (N := 60) ?hd (cs := #[.int .i64 0]) (t := 3) (n := 1) (c := 1) ?hr ?_; (case hd => rfl); (case hg => rfl); (case hr => first | (go_simp; done) | (go_simp; rfl)); intro g11 hg w11 hbox hb; have GE11 := Aside0.mk (Nat.le_of_eq hg.symm); have BK11 := Aside0.mk hbox; have HX11 := Aside0.mk hb; clear hg hbox hb)
      | ((with_reducible refine gate_builtin (b := .append) (xs := #[.tmp 59, .tmp 60]) rfl ?_); refine append_one_event eI_ok rfl rfl rfl rfl rfl (HBk11.out.below HX11.out).r3 (C_one eI_ok (x := 0) BK11.out) ?_ ?_ ?_; (case refine_1 => have := HLn4.out; show (n3_11 + 1) * 8 ≤ _; omega); (case refine_2 => have := HLn4.out; omega); intro A11 c11 w12 hr ho hA; have HP11 := Aside0.mk ((HBk11.out.below HX11.out).put3 hr ho hA); have HO11 := Aside0.mk ho; have e2 : w12.cell? ⟨q, 2, none⟩ = some (.slice A3_11 n3_11 c3_11) := (blk_cell ((ho.block q (blk_lt (HBk11.out.below HX11.out).blk) (fun ⟨a, ha, e⟩ => (HBk11.out.below HX11.out).q3 a ha e.symm)).trans (HBk11.out.below HX11.out).blk) 2).trans rfl; have f2 : w12.frozen? ⟨q, 2, none⟩ = false := blk_frozen ((ho.block q (blk_lt (HBk11.out.below HX11.out).blk) (fun ⟨a, ha, e⟩ => (HBk11.out.below HX11.out).q3 a ha e.symm)).trans (HBk11.out.below HX11.out).blk) 2; clear hr ho hA d2)
      | fail)
    have HD13 := Aside0.mk ((HD10.out.below HX11.out).book ⟨_, _, _, _, _, _, _, _, _, HP11.out.1.mono (fun _ hk => okx_set hk)⟩ HP11.out.2)
    have BK13' := blk_below BK10.out HX11.out
    have BK13 : Aside0 ((w12.setCell ⟨q, 2, none⟩ (.slice A11 (n3_11 + 1) c11)).heap[g1]? = some (.cells #[.int .i64 kind, .string sA, .string sB, .slice B mB cB, .int .i64 N] 44 (0, 0))) := Aside0.mk ((heap_not (ne_kind (HO11.out.block g1 (blk_lt BK13') (fun ⟨a, ha, e⟩ => Own_kind (HBk11.out.below HX11.out).r3 a ha BK13' (by decide) e) |>.trans BK13') ((HO11.out.block q (blk_lt (HBk11.out.below HX11.out).blk) (fun ⟨a, ha, e⟩ => (HBk11.out.below HX11.out).q3 a ha e.symm)).trans (HBk11.out.below HX11.out).blk) (fun e => by injection e with _ e; exact absurd e (by decide)))).trans ((HO11.out.block g1 (blk_lt BK13') (fun ⟨a, ha, e⟩ => Own_kind (HBk11.out.below HX11.out).r3 a ha BK13' (by decide) e)).trans BK13'))
    clear BK13' HBk11 HP11 HO11 HX11 e2 f2
    generalize w12.setCell ⟨q, 2, none⟩ (.slice A11 (n3_11 + 1) c11) = w13 at *
    have hsz : ¬ 9223372036854775807 < (bs []).size + (strOfNums xs).size := by rw [strOfNums_size, (HC.out w (Only.refl _ _)).1, bs_size]; have := HCat.out; simp; omega
    obtain ⟨A1, A2, A3, n1, n2, n3, c1, c2, c3, hbk0⟩ := HD13.out.bk
    have hbk : BkMs w13 _ q ⟨b.names ++ [s], b.bytes ++ [[]], b.syn ++ [0]⟩ A1 A2 A3 n1 n2 n3 c1 c2 c3 := hbk0
    obtain ⟨g2, e2, -, -, hc2, hf2⟩ := hbk.r2.at n3_11 [] (by have := HL.out.2.1; subst this; simp)
    have hl2 : (⟨b.names ++ [s], b.bytes ++ [[]], b.syn ++ [0]⟩ : BS).bytes.length = n2 := hbk.r2.len
    have hil2 : (n3_11 : Int) < (n2 : Int) := by
      have h1 := (List.getElem?_eq_some_iff.1 (show (⟨b.names ++ [s], b.bytes ++ [[]], b.syn ++ [0]⟩ : BS).bytes[n3_11]? = some [] from (by have := HL.out.2.1; subst this; simp))).1
      omega
    subst e2
    have HG := Aside0.mk (Own_kind hbk.r2 _ rfl BK13.out (by decide))
    have d1 : w13.cell? ⟨q, 1, none⟩ = some (.slice (some ⟨g2, 0, none⟩) n2 c2) := (blk_cell hbk.blk 1).trans rfl
    have hy : w13.cell? ⟨g2, n3_11, none⟩ = some (.string (bs [])) := hc2
    have ho3 : w13.cell? ⟨g1, 3, none⟩ = some (.slice B mB cB) := (blk_cell BK13.out 3).trans rfl
    have HSet := Aside0.mk (set_new hbk rfl HL.out.2.1 (strOfNums xs).data.toList)
    have HSt := Aside0.mk (Kd.C_string Try.underlying22 Try.underlying5 Try.underlying9 (c := cB) (Kd.C_drew (HC.out _ HD13.out.only)))
    clear hbk hbk0 hc2 hl2
    refine start_ (n := 18) (S := fun w' => w'.cell? ⟨q, 1, none⟩ = some (.slice (some ⟨g2, 0, none⟩) n2 c2) ∧ w'.cell? ⟨g2, n3_11, none⟩ = some (.string (bs [])) ∧ w'.frozen? ⟨g2, n3_11, none⟩ = false ∧ w'.cell? ⟨g1, 3, none⟩ = some (.slice B mB cB) ∧ (convert 22 9 (.slice B mB cB)).run Try.prog w' = .ok (.string (strOfNums xs)) w') (ds := [17]) #[false, false, false, false, false, false, false, false, false, false, false, false, false, false, false, false, false, false] (by kernel_rfl) rfl rfl ⟨d1, hy, hf2, ho3, HSt.out⟩ (fun hHeld => ?_)
    refine pure_ (i := 0) (N := some 64) (v := ?_) (a' := ?_) #[true, false, false, false, false, false, false, false, false, false, false, false, false, false, false, false, false, false] rfl rfl (by kernel_rfl) (fun _ _ _ h => h) (Or.inl ⟨by rfl, ?_⟩) ?_ ?_
    rotate_left
    · intro w'
      go_simp
      with_reducible rfl
    rotate_left
    · simp only [Act.put, List.setIfInBounds_toArray, List.set_cons_zero, List.set_cons_succ, i64_w, i32_w]
      rfl
    refine pure_ (i := 1) (N := some 65) (v := ?_) (a' := ?_) #[true, true, false, false, false, false, false, false, false, false, false, false, false, false, false, false, false, false] rfl rfl (by kernel_rfl) (fun _ _ _ h => h) (Or.inl ⟨by rfl, ?_⟩) ?_ ?_
    rotate_left
    · intro w'
      go_simp
      with_reducible rfl
    rotate_left
    · simp only [Act.put, List.setIfInBounds_toArray, List.set_cons_zero, List.set_cons_succ, i64_w, i32_w]
      rfl
    refine pure_ (i := 2) (N := some 66) (v := ?_) (a' := ?_) #[true, true, true, false, false, false, false, false, false, false, false, false, false, false, false, false, false, false] rfl rfl (by kernel_rfl) (fun _ _ _ h => h) (Or.inl ⟨by rfl, ?_⟩) ?_ ?_
    rotate_left
    · intro w'
      go_simp
      with_reducible rfl
    rotate_left
    · simp only [Act.put, List.setIfInBounds_toArray, List.set_cons_zero, List.set_cons_succ, i64_w, i32_w]
      rfl
    refine pure_ (i := 4) (N := some 68) (v := ?_) (a' := ?_) #[true, true, true, false, true, false, false, false, false, false, false, false, false, false, false, false, false, false] rfl rfl (by kernel_rfl) (fun _ _ _ h => h) (Or.inl ⟨by rfl, ?_⟩) ?_ ?_
    rotate_left
    · intro w'
      go_simp
      with_reducible rfl
    rotate_left
    · simp only [Act.put, List.setIfInBounds_toArray, List.set_cons_zero, List.set_cons_succ, i64_w, i32_w]
      rfl
    refine pure_ (i := 5) (N := some 69) (v := ?_) (a' := ?_) #[true, true, true, false, true, true, false, false, false, false, false, false, false, false, false, false, false, false] rfl rfl (by kernel_rfl) (fun _ _ _ h => h) (Or.inl ⟨by rfl, ?_⟩) ?_ ?_
    rotate_left
    · intro w'
      go_simp
      with_reducible rfl
    rotate_left
    · simp only [Act.put, List.setIfInBounds_toArray, List.set_cons_zero, List.set_cons_succ, i64_w, i32_w]
      rfl
    refine pure_ (i := 6) (N := some 70) (v := ?_) (a' := ?_) #[true, true, true, false, true, true, true, false, false, false, false, false, false, false, false, false, false, false] rfl rfl (by kernel_rfl) (fun _ _ _ h => h) (Or.inl ⟨by rfl, ?_⟩) ?_ ?_
    rotate_left
    · intro w'
      go_simp
      with_reducible rfl
    rotate_left
    · simp only [Act.put, List.setIfInBounds_toArray, List.set_cons_zero, List.set_cons_succ, i64_w, i32_w]
      rfl
    refine pure_ (i := 7) (N := some 71) (v := ?_) (a' := ?_) #[true, true, true, false, true, true, true, true, false, false, false, false, false, false, false, false, false, false] rfl rfl (by kernel_rfl) (fun _ _ _ h => h) (Or.inl ⟨by rfl, ?_⟩) ?_ ?_
    rotate_left
    · intro w'
      go_simp
      with_reducible rfl
    rotate_left
    · simp only [Act.put, List.setIfInBounds_toArray, List.set_cons_zero, List.set_cons_succ, i64_w, i32_w]
      rfl
    refine pure_ (i := 9) (N := some 73) (v := ?_) (a' := ?_) #[true, true, true, false, true, true, true, true, false, true, false, false, false, false, false, false, false, false] rfl rfl (by kernel_rfl) (fun _ _ _ h => h) (Or.inl ⟨by rfl, ?_⟩) ?_ ?_
    rotate_left
    · intro w'
      go_simp
      with_reducible rfl
    rotate_left
    · simp only [Act.put, List.setIfInBounds_toArray, List.set_cons_zero, List.set_cons_succ, i64_w, i32_w]
      rfl
    refine pure_ (i := 12) (N := some 76) (v := ?_) (a' := ?_) #[true, true, true, false, true, true, true, true, false, true, false, false, true, false, false, false, false, false] rfl rfl (by kernel_rfl) (fun _ _ _ h => h) (Or.inl ⟨by rfl, ?_⟩) ?_ ?_
    rotate_left
    · intro w'
      go_simp
      with_reducible rfl
    rotate_left
    · simp only [Act.put, List.setIfInBounds_toArray, List.set_cons_zero, List.set_cons_succ, i64_w, i32_w]
      rfl
    refine take_ (i := 3) (N := some 67) (v := ?_) (a' := ?_) #[true, true, true, true, true, true, true, true, false, true, false, false, true, false, false, false, false, false] rfl rfl (by kernel_rfl) (fun _ _ _ h => h) (Or.inl ⟨by rfl, ?_⟩) hHeld ?_ ?_
    rotate_left
    · rintro w' ⟨s0, s1, s2, s3, s4⟩
      go_simp
      with_reducible rfl
    rotate_left
    · simp only [Act.put, List.setIfInBounds_toArray, List.set_cons_zero, List.set_cons_succ, i64_w, i32_w]
      rfl
    refine take_ (i := 8) (N := some 72) (v := ?_) (a' := ?_) #[true, true, true, true, true, true, true, true, true, true, false, false, true, false, false, false, false, false] rfl rfl (by kernel_rfl) (fun _ _ _ h => h) (Or.inl ⟨by rfl, ?_⟩) hHeld ?_ ?_
    rotate_left
    · rintro w' ⟨s0, s1, s2, s3, s4⟩
      go_simp
      with_reducible rfl
    rotate_left
    · simp only [Act.put, List.setIfInBounds_toArray, List.set_cons_zero, List.set_cons_succ, i64_w, i32_w]
      rfl
    refine pure_ (i := 10) (N := some 74) (v := ?_) (a' := ?_) #[true, true, true, true, true, true, true, true, true, true, true, false, true, false, false, false, false, false] rfl rfl (by kernel_rfl) (fun _ _ _ h => h) (Or.inl ⟨by rfl, ?_⟩) ?_ ?_
    rotate_left
    · intro w'
      go_simp
      with_reducible rfl
    rotate_left
    · simp only [Act.put, List.setIfInBounds_toArray, List.set_cons_zero, List.set_cons_succ, i64_w, i32_w]
      rfl
    refine take_ (i := 11) (N := some 75) (v := ?_) (a' := ?_) #[true, true, true, true, true, true, true, true, true, true, true, true, true, false, false, false, false, false] rfl rfl (by kernel_rfl) (fun _ _ _ h => h) (Or.inl ⟨by rfl, ?_⟩) hHeld ?_ ?_
    rotate_left
    · rintro w' ⟨s0, s1, s2, s3, s4⟩
      go_simp
      with_reducible rfl
    rotate_left
    · simp only [Act.put, List.setIfInBounds_toArray, List.set_cons_zero, List.set_cons_succ, i64_w, i32_w]
      rfl
    refine take_ (i := 13) (N := some 77) (v := ?_) (a' := ?_) #[true, true, true, true, true, true, true, true, true, true, true, true, true, true, false, false, false, false] rfl rfl (by kernel_rfl) (fun _ _ _ h => h) (Or.inl ⟨by rfl, ?_⟩) hHeld ?_ ?_
    rotate_left
    · rintro w' ⟨s0, s1, s2, s3, s4⟩
      go_simp
      with_reducible rfl
    rotate_left
    · simp only [Act.put, List.setIfInBounds_toArray, List.set_cons_zero, List.set_cons_succ, i64_w, i32_w]
      rfl
    refine take_ (i := 14) (N := some 78) (v := ?_) (a' := ?_) #[true, true, true, true, true, true, true, true, true, true, true, true, true, true, true, false, false, false] rfl rfl (by kernel_rfl) (fun _ _ _ h => h) (Or.inl ⟨by rfl, ?_⟩) hHeld ?_ ?_
    rotate_left
    · rintro w' ⟨s0, s1, s2, s3, s4⟩
      go_simp
      with_reducible rfl
    rotate_left
    · simp only [Act.put, List.setIfInBounds_toArray, List.set_cons_zero, List.set_cons_succ, i64_w, i32_w]
      rfl
    refine pure_ (i := 15) (N := some 79) (v := ?_) (a' := ?_) #[true, true, true, true, true, true, true, true, true, true, true, true, true, true, true, true, false, false] rfl rfl (by kernel_rfl) (fun _ _ _ h => h) (Or.inl ⟨by rfl, ?_⟩) ?_ ?_
    rotate_left
    · intro w'
      go_simp
      with_reducible rfl
    rotate_left
    · simp only [Act.put, List.setIfInBounds_toArray, List.set_cons_zero, List.set_cons_succ, i64_w, i32_w]
      rfl
    refine pure_ (i := 16) (N := some 80) (v := ?_) (a' := ?_) #[true, true, true, true, true, true, true, true, true, true, true, true, true, true, true, true, true, false] rfl rfl (by kernel_rfl) (fun _ _ _ h => h) (Or.inl ⟨by rfl, ?_⟩) ?_ ?_
    rotate_left
    · intro w'
      go_simp
      with_reducible rfl
    rotate_left
    · simp only [Act.put, List.setIfInBounds_toArray, List.set_cons_zero, List.set_cons_succ, i64_w, i32_w]
      rfl
    refine last_ (i := 17) (N := none) #[true, true, true, true, true, true, true, true, true, true, true, true, true, true, true, true, true, true] rfl rfl (by kernel_rfl) (by decide) (fun K hK => ?_)
    refine skip_ (w1 := ?_) (by rfl) rfl ?_ ?_
    rotate_left
    · go_simp
      rfl
    refine hK.out _ _ ?_
    clear hK K
    refine done_ (by kernel_rfl) ?_
    clear hHeld d1 hy hf2 ho3 HSt
    rw [cat_ts]
    have HD33 := Aside0.mk (HD13.out.book ⟨_, _, _, _, _, _, _, _, _, (HSet.out.1.below (drew_below _)).mono (fun _ hk => .inl hk)⟩ HSet.out.2.drew)
    have BK33 : Aside0 (((w13.setCell ⟨g2, n3_11, none⟩ (.string (bs ([] ++ (strOfNums xs).data.toList)))).drew).heap[g1]? = some (.cells #[.int .i64 kind, .string sA, .string sB, .slice B mB cB, .int .i64 N] 44 (0, 0))) := Aside0.mk ((heap_not HG.out).trans BK13.out)
    clear HSet HG
    generalize (w13.setCell ⟨g2, n3_11, none⟩ (.string (bs ([] ++ (strOfNums xs).data.toList)))).drew = w33 at *
    have ho3 : w33.cell? ⟨g1, 3, none⟩ = some (.slice B mB cB) := (blk_cell BK33.out 3).trans rfl
    go_wp2_with fail
    refine (append_calls w33 _ p mB cB d s B xs HD33.out.dk HSh.out HOp.out (HC.out _ HD33.out.only) HFit.out).mono ?_
    rintro e w34 ⟨rfl, hd, ho⟩
    have HD34 := Aside0.mk (HD33.out.disk hd ho)
    clear hd ho ho3 HD33
    obtain ⟨⟨d6, r6⟩, hrs⟩ : ∃ rs, rs = appendS d s xs := ⟨_, rfl⟩
    rw [← hrs] at HD34 ⊢
    have HRs := Aside0.mk hrs.symm
    clear hrs
    simp only at HD34 ⊢
    have HE := Aside0.mk (show noteAppend d b s xs = (d6, ⟨b.names ++ [s], b.bytes ++ [txtI xs], b.syn ++ [0]⟩, r6 == 0) by unfold noteAppend BS.put; rw [HRs.out, if_neg (by rw [← HIx.out]; omega)])
    go_wp2_with fail
    go_ret
    rw [HE.out]
    exact ⟨rfl, _, _, HD34.out⟩
  · have hx1 : decide (ix < 0) = false := decide_eq_false hx
    have HIx0 := Aside0.mk (show 0 ≤ ix by omega)
    obtain ⟨i, hi, hil, -⟩ := idxT_nat (names := b.names) (s := s) (by rw [← HIx.out]; exact HIx0.out)
    obtain rfl : ix = (i : Int) := HIx.out.trans hi
    rw [hi, Int.toNat_natCast] at HCat
    rw [HL.out.1] at hil
    clear hi hx HIx0
    have HY := Aside0.mk (show b.bytes[i]? = some (b.bytes.getD i []) by rw [List.getD_eq_getElem?_getD, List.getElem?_eq_getElem (by rw [HL.out.2.1]; exact hil)]; rfl)
    obtain ⟨y, hyy⟩ : ∃ y, y = b.bytes.getD i [] := ⟨_, rfl⟩
    have HYe := Aside0.mk hyy
    rw [← hyy] at HY HCat
    have hsz : ¬ 9223372036854775807 < (bs y).size + (strOfNums xs).size := by rw [strOfNums_size, (HC.out w (Only.refl _ _)).1, bs_size]; have := HCat.out; omega
    clear hyy
    go_wp2_with fail
    obtain ⟨A1, A2, A3, n1, n2, n3, c1, c2, c3, hbk0⟩ := HD4.out.bk
    have hbk : BkMs w4 _ q b A1 A2 A3 n1 n2 n3 c1 c2 c3 := hbk0
    obtain ⟨g2, e2, -, -, hc2, hf2⟩ := hbk.r2.at i y HY.out
    have hl2 : (b : BS).bytes.length = n2 := hbk.r2.len
    have hil2 : (i : Int) < (n2 : Int) := by
      have h1 := (List.getElem?_eq_some_iff.1 (show (b : BS).bytes[i]? = some y from HY.out)).1
      omega
    subst e2
    have HG := Aside0.mk (Own_kind hbk.r2 _ rfl BK4.out (by decide))
    have d1 : w4.cell? ⟨q, 1, none⟩ = some (.slice (some ⟨g2, 0, none⟩) n2 c2) := (blk_cell hbk.blk 1).trans rfl
    have hy : w4.cell? ⟨g2, i, none⟩ = some (.string (bs y)) := hc2
    have ho3 : w4.cell? ⟨g1, 3, none⟩ = some (.slice B mB cB) := (blk_cell BK4.out 3).trans rfl
    have HSet := Aside0.mk (hbk.set2 rfl i (y ++ (strOfNums xs).data.toList))
    have HSt := Aside0.mk (Kd.C_string Try.underlying22 Try.underlying5 Try.underlying9 (c := cB) (Kd.C_drew (HC.out _ HD4.out.only)))
    clear hbk hbk0 hc2 hl2
    refine start_ (n := 18) (S := fun w' => w'.cell? ⟨q, 1, none⟩ = some (.slice (some ⟨g2, 0, none⟩) n2 c2) ∧ w'.cell? ⟨g2, i, none⟩ = some (.string (bs y)) ∧ w'.frozen? ⟨g2, i, none⟩ = false ∧ w'.cell? ⟨g1, 3, none⟩ = some (.slice B mB cB) ∧ (convert 22 9 (.slice B mB cB)).run Try.prog w' = .ok (.string (strOfNums xs)) w') (ds := [17]) #[false, false, false, false, false, false, false, false, false, false, false, false, false, false, false, false, false, false] (by kernel_rfl) rfl rfl ⟨d1, hy, hf2, ho3, HSt.out⟩ (fun hHeld => ?_)
    refine pure_ (i := 0) (N := some 64) (v := ?_) (a' := ?_) #[true, false, false, false, false, false, false, false, false, false, false, false, false, false, false, false, false, false] rfl rfl (by kernel_rfl) (fun _ _ _ h => h) (Or.inl ⟨by rfl, ?_⟩) ?_ ?_
    rotate_left
    · intro w'
      go_simp
      with_reducible rfl
    rotate_left
    · simp only [Act.put, List.setIfInBounds_toArray, List.set_cons_zero, List.set_cons_succ, i64_w, i32_w]
      rfl
    refine pure_ (i := 1) (N := some 65) (v := ?_) (a' := ?_) #[true, true, false, false, false, false, false, false, false, false, false, false, false, false, false, false, false, false] rfl rfl (by kernel_rfl) (fun _ _ _ h => h) (Or.inl ⟨by rfl, ?_⟩) ?_ ?_
    rotate_left
    · intro w'
      go_simp
      with_reducible rfl
    rotate_left
    · simp only [Act.put, List.setIfInBounds_toArray, List.set_cons_zero, List.set_cons_succ, i64_w, i32_w]
      rfl
    refine pure_ (i := 2) (N := some 66) (v := ?_) (a' := ?_) #[true, true, true, false, false, false, false, false, false, false, false, false, false, false, false, false, false, false] rfl rfl (by kernel_rfl) (fun _ _ _ h => h) (Or.inl ⟨by rfl, ?_⟩) ?_ ?_
    rotate_left
    · intro w'
      go_simp
      with_reducible rfl
    rotate_left
    · simp only [Act.put, List.setIfInBounds_toArray, List.set_cons_zero, List.set_cons_succ, i64_w, i32_w]
      rfl
    refine pure_ (i := 4) (N := some 68) (v := ?_) (a' := ?_) #[true, true, true, false, true, false, false, false, false, false, false, false, false, false, false, false, false, false] rfl rfl (by kernel_rfl) (fun _ _ _ h => h) (Or.inl ⟨by rfl, ?_⟩) ?_ ?_
    rotate_left
    · intro w'
      go_simp
      with_reducible rfl
    rotate_left
    · simp only [Act.put, List.setIfInBounds_toArray, List.set_cons_zero, List.set_cons_succ, i64_w, i32_w]
      rfl
    refine pure_ (i := 5) (N := some 69) (v := ?_) (a' := ?_) #[true, true, true, false, true, true, false, false, false, false, false, false, false, false, false, false, false, false] rfl rfl (by kernel_rfl) (fun _ _ _ h => h) (Or.inl ⟨by rfl, ?_⟩) ?_ ?_
    rotate_left
    · intro w'
      go_simp
      with_reducible rfl
    rotate_left
    · simp only [Act.put, List.setIfInBounds_toArray, List.set_cons_zero, List.set_cons_succ, i64_w, i32_w]
      rfl
    refine pure_ (i := 6) (N := some 70) (v := ?_) (a' := ?_) #[true, true, true, false, true, true, true, false, false, false, false, false, false, false, false, false, false, false] rfl rfl (by kernel_rfl) (fun _ _ _ h => h) (Or.inl ⟨by rfl, ?_⟩) ?_ ?_
    rotate_left
    · intro w'
      go_simp
      with_reducible rfl
    rotate_left
    · simp only [Act.put, List.setIfInBounds_toArray, List.set_cons_zero, List.set_cons_succ, i64_w, i32_w]
      rfl
    refine pure_ (i := 7) (N := some 71) (v := ?_) (a' := ?_) #[true, true, true, false, true, true, true, true, false, false, false, false, false, false, false, false, false, false] rfl rfl (by kernel_rfl) (fun _ _ _ h => h) (Or.inl ⟨by rfl, ?_⟩) ?_ ?_
    rotate_left
    · intro w'
      go_simp
      with_reducible rfl
    rotate_left
    · simp only [Act.put, List.setIfInBounds_toArray, List.set_cons_zero, List.set_cons_succ, i64_w, i32_w]
      rfl
    refine pure_ (i := 9) (N := some 73) (v := ?_) (a' := ?_) #[true, true, true, false, true, true, true, true, false, true, false, false, false, false, false, false, false, false] rfl rfl (by kernel_rfl) (fun _ _ _ h => h) (Or.inl ⟨by rfl, ?_⟩) ?_ ?_
    rotate_left
    · intro w'
      go_simp
      with_reducible rfl
    rotate_left
    · simp only [Act.put, List.setIfInBounds_toArray, List.set_cons_zero, List.set_cons_succ, i64_w, i32_w]
      rfl
    refine pure_ (i := 12) (N := some 76) (v := ?_) (a' := ?_) #[true, true, true, false, true, true, true, true, false, true, false, false, true, false, false, false, false, false] rfl rfl (by kernel_rfl) (fun _ _ _ h => h) (Or.inl ⟨by rfl, ?_⟩) ?_ ?_
    rotate_left
    · intro w'
      go_simp
      with_reducible rfl
    rotate_left
    · simp only [Act.put, List.setIfInBounds_toArray, List.set_cons_zero, List.set_cons_succ, i64_w, i32_w]
      rfl
    refine take_ (i := 3) (N := some 67) (v := ?_) (a' := ?_) #[true, true, true, true, true, true, true, true, false, true, false, false, true, false, false, false, false, false] rfl rfl (by kernel_rfl) (fun _ _ _ h => h) (Or.inl ⟨by rfl, ?_⟩) hHeld ?_ ?_
    rotate_left
    · rintro w' ⟨s0, s1, s2, s3, s4⟩
      go_simp
      with_reducible rfl
    rotate_left
    · simp only [Act.put, List.setIfInBounds_toArray, List.set_cons_zero, List.set_cons_succ, i64_w, i32_w]
      rfl
    refine take_ (i := 8) (N := some 72) (v := ?_) (a' := ?_) #[true, true, true, true, true, true, true, true, true, true, false, false, true, false, false, false, false, false] rfl rfl (by kernel_rfl) (fun _ _ _ h => h) (Or.inl ⟨by rfl, ?_⟩) hHeld ?_ ?_
    rotate_left
    · rintro w' ⟨s0, s1, s2, s3, s4⟩
      go_simp
      with_reducible rfl
    rotate_left
    · simp only [Act.put, List.setIfInBounds_toArray, List.set_cons_zero, List.set_cons_succ, i64_w, i32_w]
      rfl
    refine pure_ (i := 10) (N := some 74) (v := ?_) (a' := ?_) #[true, true, true, true, true, true, true, true, true, true, true, false, true, false, false, false, false, false] rfl rfl (by kernel_rfl) (fun _ _ _ h => h) (Or.inl ⟨by rfl, ?_⟩) ?_ ?_
    rotate_left
    · intro w'
      go_simp
      with_reducible rfl
    rotate_left
    · simp only [Act.put, List.setIfInBounds_toArray, List.set_cons_zero, List.set_cons_succ, i64_w, i32_w]
      rfl
    refine take_ (i := 11) (N := some 75) (v := ?_) (a' := ?_) #[true, true, true, true, true, true, true, true, true, true, true, true, true, false, false, false, false, false] rfl rfl (by kernel_rfl) (fun _ _ _ h => h) (Or.inl ⟨by rfl, ?_⟩) hHeld ?_ ?_
    rotate_left
    · rintro w' ⟨s0, s1, s2, s3, s4⟩
      go_simp
      with_reducible rfl
    rotate_left
    · simp only [Act.put, List.setIfInBounds_toArray, List.set_cons_zero, List.set_cons_succ, i64_w, i32_w]
      rfl
    refine take_ (i := 13) (N := some 77) (v := ?_) (a' := ?_) #[true, true, true, true, true, true, true, true, true, true, true, true, true, true, false, false, false, false] rfl rfl (by kernel_rfl) (fun _ _ _ h => h) (Or.inl ⟨by rfl, ?_⟩) hHeld ?_ ?_
    rotate_left
    · rintro w' ⟨s0, s1, s2, s3, s4⟩
      go_simp
      with_reducible rfl
    rotate_left
    · simp only [Act.put, List.setIfInBounds_toArray, List.set_cons_zero, List.set_cons_succ, i64_w, i32_w]
      rfl
    refine take_ (i := 14) (N := some 78) (v := ?_) (a' := ?_) #[true, true, true, true, true, true, true, true, true, true, true, true, true, true, true, false, false, false] rfl rfl (by kernel_rfl) (fun _ _ _ h => h) (Or.inl ⟨by rfl, ?_⟩) hHeld ?_ ?_
    rotate_left
    · rintro w' ⟨s0, s1, s2, s3, s4⟩
      go_simp
      with_reducible rfl
    rotate_left
    · simp only [Act.put, List.setIfInBounds_toArray, List.set_cons_zero, List.set_cons_succ, i64_w, i32_w]
      rfl
    refine pure_ (i := 15) (N := some 79) (v := ?_) (a' := ?_) #[true, true, true, true, true, true, true, true, true, true, true, true, true, true, true, true, false, false] rfl rfl (by kernel_rfl) (fun _ _ _ h => h) (Or.inl ⟨by rfl, ?_⟩) ?_ ?_
    rotate_left
    · intro w'
      go_simp
      with_reducible rfl
    rotate_left
    · simp only [Act.put, List.setIfInBounds_toArray, List.set_cons_zero, List.set_cons_succ, i64_w, i32_w]
      rfl
    refine pure_ (i := 16) (N := some 80) (v := ?_) (a' := ?_) #[true, true, true, true, true, true, true, true, true, true, true, true, true, true, true, true, true, false] rfl rfl (by kernel_rfl) (fun _ _ _ h => h) (Or.inl ⟨by rfl, ?_⟩) ?_ ?_
    rotate_left
    · intro w'
      go_simp
      with_reducible rfl
    rotate_left
    · simp only [Act.put, List.setIfInBounds_toArray, List.set_cons_zero, List.set_cons_succ, i64_w, i32_w]
      rfl
    refine last_ (i := 17) (N := none) #[true, true, true, true, true, true, true, true, true, true, true, true, true, true, true, true, true, true] rfl rfl (by kernel_rfl) (by decide) (fun K hK => ?_)
    refine skip_ (w1 := ?_) (by rfl) rfl ?_ ?_
    rotate_left
    · go_simp
      rfl
    refine hK.out _ _ ?_
    clear hK K
    refine done_ (by kernel_rfl) ?_
    clear hHeld d1 hy hf2 ho3 HSt
    rw [cat_ts]
    have HD24 := Aside0.mk (HD4.out.book ⟨_, _, _, _, _, _, _, _, _, (HSet.out.1.below (drew_below _)).mono (fun _ hk => .inl hk)⟩ HSet.out.2.drew)
    have BK24 : Aside0 (((w4.setCell ⟨g2, i, none⟩ (.string (bs (y ++ (strOfNums xs).data.toList)))).drew).heap[g1]? = some (.cells #[.int .i64 kind, .string sA, .string sB, .slice B mB cB, .int .i64 N] 44 (0, 0))) := Aside0.mk ((heap_not HG.out).trans BK4.out)
    clear HSet HG
    generalize (w4.setCell ⟨g2, i, none⟩ (.string (bs (y ++ (strOfNums xs).data.toList)))).drew = w24 at *
    have ho3 : w24.cell? ⟨g1, 3, none⟩ = some (.slice B mB cB) := (blk_cell BK24.out 3).trans rfl
    go_wp2_with fail
    refine (append_calls w24 _ p mB cB d s B xs HD24.out.dk HSh.out HOp.out (HC.out _ HD24.out.only) HFit.out).mono ?_
    rintro e w25 ⟨rfl, hd, ho⟩
    have HD25 := Aside0.mk (HD24.out.disk hd ho)
    clear hd ho ho3 HD24
    obtain ⟨⟨d6, r6⟩, hrs⟩ : ∃ rs, rs = appendS d s xs := ⟨_, rfl⟩
    rw [← hrs] at HD25 ⊢
    have HRs := Aside0.mk hrs.symm
    clear hrs
    simp only at HD25 ⊢
    have HE := Aside0.mk (show noteAppend d b s xs = (d6, { b with bytes := b.bytes.set i (y ++ txtI xs) }, r6 == 0) by unfold noteAppend BS.put; rw [HRs.out, ← HIx.out, if_pos (by omega), Int.toNat_natCast, ← HYe.out])
    go_wp2_with fail
    go_ret
    rw [HE.out]
    exact ⟨rfl, _, _, HD25.out⟩
end Go.Proofs.Ytabomfmjepmkjaa.Dk
end

section
namespace Go.Proofs.Ytabomfmjepmkjaa.Dk
set_option linter.unusedVariables false
set_option linter.unusedSimpArgs false
open Go.RowKit Go.Proofs.YtabomfmjepmkjaaW.PrintWords Go.Proofs.YtabomfmjepmkjaaW.PrintLast Go.Proofs.YtabomfmjepmkjaaW.PrintMore Go.Proofs.Ytabomfmjepmkjaa.Lib Go.Proofs.Ytabomfmjepmkjaa.Mem Go.Proofs.Ytabomfmjepmkjaa.Txt
open Go.MapKept Go.ChangeMaps
set_option maxRecDepth 100000 in
set_option maxHeartbeats 3200000 in
theorem note_append2 (w : World) (Od Ob : Nat → Prop) (p q : Nat) (d : DS) (b : BS) (kind a N : Int) (sA sB : ByteArray) (B : Option Addr) (mB cB n : Nat) (xs : List Int) (hd : DkAt w Od p d) (hb : BkAt w Ob q b) (hap : ∀ k, Od k → ¬ Ob k)
    (hl1 : b.names.length = n) (hl2 : b.bytes.length = n) (hl3 : b.syn.length = n) (hn : n < 1000000) (hA : sA.size < 4611686018427387904) (hB : sB.size < 4611686018427387904) (hC : ∀ w', Only (fun k => Od k ∨ Ob k) w w' → Kd.C (Kd.int .u8) w' B mB xs) (ha : P.gristmilllaw12_abs.f kind = some a) (hk : Int.tmod a 6 = 2) (ho : ops62 d) (hfit : ((look d.fs (nameT sA.size)).getD ([], 0)).1.length + mB ≤ 140737488355328) (hcat : (b.bytes.getD (idxT b.names (nameT sA.size)).toNat []).length + mB ≤ 9223372036854775807) :
    Calls Try.prog 20 #[.pointer (some ⟨q, 0, none⟩), .pointer (some ⟨p, 0, none⟩), .agg #[.int .i64 kind, .string sA, .string sB, .slice B mB cB, .int .i64 N]] w fun e w' => e = .returned (.bool (noteAppend d b (nameT sA.size) xs).2.2) ∧ Noted w w' Od Ob p q (noteAppend d b (nameT sA.size) xs).1 (noteAppend d b (nameT sA.size) xs).2.1 := by
  have HD0 := Aside0.mk (DB.start hd hb hap)
  have HL := Aside0.mk (And.intro hl1 (And.intro hl2 hl3))
  have HN := Aside0.mk hn
  have HAb := Aside0.mk ha
  have HOp := Aside0.mk ho
  have HC := Aside0.mk hC
  have HB := Aside0.mk hB
  have HName := Aside0.mk (name_f sA.size (by omega))
  have HSh := Aside0.mk (show Shorts [nameT sA.size] from fun t ht => by rw [List.mem_singleton.1 ht]; have := nameT_len sA.size; omega)
  have HNd := Aside0.mk (nameT_named sA.size)
  have HFit := Aside0.mk hfit
  have HCat := Aside0.mk hcat
  clear hfit hcat
  generalize nameT sA.size = s at *
  clear hd hb hap hl1 hl2 hl3 ha ho hC hB hA hn
  go_enter Try.func20, Try.ntmps20
  go_wp2_with (first
    | (((with_reducible refine gate_dst (N := 5) rfl ?_); refine box_event ?hg (N := 5) ?hd (cs := #[.int .i64 kind, .string sA, .string sB, .slice B mB cB, .int .i64 N]) (t := 44) ?hr ?_; (case hd => rfl); (case hg => rfl); (case hr => first | (go_simp; done) | (go_simp; rfl)); intro g1 hg w1 hbox hb; have GE1 := Aside0.mk (Nat.le_of_eq hg.symm); have BK1 := Aside0.mk hbox; have HX1 := Aside0.mk hb; clear hg hbox hb); (have hg1_0 : w1.cell? ⟨g1, 0, none⟩ = some (.int .i64 kind) := (blk_cell BK1.out 0).trans rfl; have hfg1_0 := blk_frozen BK1.out 0; have hg1_1 : w1.cell? ⟨g1, 1, none⟩ = some (.string sA) := (blk_cell BK1.out 1).trans rfl; have hfg1_1 := blk_frozen BK1.out 1; have hg1_2 : w1.cell? ⟨g1, 2, none⟩ = some (.string sB) := (blk_cell BK1.out 2).trans rfl; have hfg1_2 := blk_frozen BK1.out 2; have hg1_3 : w1.cell? ⟨g1, 3, none⟩ = some (.slice B mB cB) := (blk_cell BK1.out 3).trans rfl; have hfg1_3 := blk_frozen BK1.out 3; have hg1_4 : w1.cell? ⟨g1, 4, none⟩ = some (.int .i64 N) := (blk_cell BK1.out 4).trans rfl; have hfg1_4 := blk_frozen BK1.out 4))
    | fail)
  refine (P.gristmilllaw12_name.calls (sA.size : Int) (bs s) w1 HName.out).mono ?_
  rintro e w2 ⟨rfl, hb2⟩
  have BK2 := Aside0.mk (blk_below BK1.out hb2)
  have HD2 := Aside0.mk ((HD0.out.below HX1.out).below hb2)
  clear hg1_0 hfg1_0 hg1_1 hfg1_1 hg1_2 hfg1_2 hg1_3 hfg1_3 hg1_4 hfg1_4
  clear hb2 HD0 HX1
  go_wp2_with fail
  refine (at_calls w2 _ q b s HD2.out.bk (by rw [HL.out.1]; exact HN.out)).mono ?_
  rintro e w3 ⟨rfl, hb3⟩
  have BK3 := Aside0.mk (blk_below BK2.out hb3)
  have HD3 := Aside0.mk (HD2.out.below hb3)
  clear hb3 HD2
  (have hg1_0 : w3.cell? ⟨g1, 0, none⟩ = some (.int .i64 kind) := (blk_cell BK3.out 0).trans rfl; have hfg1_0 := blk_frozen BK3.out 0; have hg1_1 : w3.cell? ⟨g1, 1, none⟩ = some (.string sA) := (blk_cell BK3.out 1).trans rfl; have hfg1_1 := blk_frozen BK3.out 1; have hg1_2 : w3.cell? ⟨g1, 2, none⟩ = some (.string sB) := (blk_cell BK3.out 2).trans rfl; have hfg1_2 := blk_frozen BK3.out 2; have hg1_3 : w3.cell? ⟨g1, 3, none⟩ = some (.slice B mB cB) := (blk_cell BK3.out 3).trans rfl; have hfg1_3 := blk_frozen BK3.out 3; have hg1_4 : w3.cell? ⟨g1, 4, none⟩ = some (.int .i64 N) := (blk_cell BK3.out 4).trans rfl; have hfg1_4 := blk_frozen BK3.out 4)
  go_wp2_with fail
  refine (P.gristmilllaw12_abs.calls kind a w3 HAb.out).mono ?_
  rintro e w4 ⟨rfl, hdr⟩
  have BK4 := Aside0.mk (blk_below BK3.out hdr.below)
  have HD4 := Aside0.mk (HD3.out.below hdr.below)
  clear hg1_0 hfg1_0 hg1_1 hfg1_1 hg1_2 hfg1_2 hg1_3 hfg1_3 hg1_4 hfg1_4
  clear hdr HD3
  obtain ⟨ix, hix⟩ : ∃ ix, ix = idxT b.names s := ⟨_, rfl⟩
  have HIx := Aside0.mk hix
  rw [← hix]
  clear hix
  have HLn4 := HN
  by_cases hx : ix < 0
  · have hx1 : decide (ix < 0) = true := decide_eq_true hx
    obtain ⟨A1_5, A2_5, A3_5, n1_5, n2_5, n3_5, c1_5, c2_5, c3_5, hbk⟩ := HD4.out.bk
    have HBk5 := Aside0.mk hbk
    have d0 : w4.cell? ⟨q, 0, none⟩ = some (.slice A1_5 n1_5 c1_5) := (blk_cell hbk.blk 0).trans rfl
    obtain rfl : n1_5 = n := hbk.r1.len.symm.trans HL.out.1
    clear hbk
    go_upto_region 10 with (first
      | ((with_reducible refine gate_dst (N := 42) rfl ?_); refine row_event2 ?hg (N := 42) ?hd (cs := #[.string (bs s)]) (t := 9) (n := 1) (c := 1) ?hr ?_; (case hd => rfl); (case hg => rfl); (case hr => first | (go_simp; done) | (go_simp; rfl)); intro g5 hg w5 hbox hb; have GE5 := Aside0.mk (Nat.le_of_eq hg.symm); have BK5 := Aside0.mk hbox; have HX5 := Aside0.mk hb; clear hg hbox hb)
      | ((with_reducible refine gate_builtin (b := .append) (xs := #[.tmp 40, .tmp 42]) rfl ?_); refine append_one_event eT_ok rfl rfl rfl rfl rfl (HBk5.out.below HX5.out).r1 (C_one eT_ok (x := s) BK5.out) ?_ ?_ ?_; (case refine_1 => have := HLn4.out; show (n1_5 + 1) * 16 ≤ _; omega); (case refine_2 => have := HLn4.out; omega); intro A5 c5 w6 hr ho hA; have HP5 := Aside0.mk ((HBk5.out.below HX5.out).put1 hr ho hA); have HO5 := Aside0.mk ho; have e0 : w6.cell? ⟨q, 0, none⟩ = some (.slice A1_5 n1_5 c1_5) := (blk_cell ((ho.block q (blk_lt (HBk5.out.below HX5.out).blk) (fun ⟨a, ha, e⟩ => (HBk5.out.below HX5.out).q1 a ha e.symm)).trans (HBk5.out.below HX5.out).blk) 0).trans rfl; have f0 : w6.frozen? ⟨q, 0, none⟩ = false := blk_frozen ((ho.block q (blk_lt (HBk5.out.below HX5.out).blk) (fun ⟨a, ha, e⟩ => (HBk5.out.below HX5.out).q1 a ha e.symm)).trans (HBk5.out.below HX5.out).blk) 0; clear hr ho hA d0)
      | fail)
    have HD7 := Aside0.mk ((HD4.out.below HX5.out).book ⟨_, _, _, _, _, _, _, _, _, HP5.out.1.mono (fun _ hk => okx_set hk)⟩ HP5.out.2)
    have BK7' := blk_below BK4.out HX5.out
    have BK7 : Aside0 ((w6.setCell ⟨q, 0, none⟩ (.slice A5 (n1_5 + 1) c5)).heap[g1]? = some (.cells #[.int .i64 kind, .string sA, .string sB, .slice B mB cB, .int .i64 N] 44 (0, 0))) := Aside0.mk ((heap_not (ne_kind (HO5.out.block g1 (blk_lt BK7') (fun ⟨a, ha, e⟩ => Own_kind (HBk5.out.below HX5.out).r1 a ha BK7' (by decide) e) |>.trans BK7') ((HO5.out.block q (blk_lt (HBk5.out.below HX5.out).blk) (fun ⟨a, ha, e⟩ => (HBk5.out.below HX5.out).q1 a ha e.symm)).trans (HBk5.out.below HX5.out).blk) (fun e => by injection e with _ e; exact absurd e (by decide)))).trans ((HO5.out.block g1 (blk_lt BK7') (fun ⟨a, ha, e⟩ => Own_kind (HBk5.out.below HX5.out).r1 a ha BK7' (by decide) e)).trans BK7'))
    clear BK7' HBk5 HP5 HO5 HX5 e0 f0
    generalize w6.setCell ⟨q, 0, none⟩ (.slice A5 (n1_5 + 1) c5) = w7 at *
    obtain ⟨A1_8, A2_8, A3_8, n1_8, n2_8, n3_8, c1_8, c2_8, c3_8, hbk⟩ := HD7.out.bk
    have HBk8 := Aside0.mk hbk
    have d1 : w7.cell? ⟨q, 1, none⟩ = some (.slice A2_8 n2_8 c2_8) := (blk_cell hbk.blk 1).trans rfl
    obtain rfl : n2_8 = n1_5 := hbk.r2.len.symm.trans HL.out.2.1
    clear hbk
    go_upto_region 11 with (first
      | ((with_reducible refine gate_dst (N := 51) rfl ?_); refine row_event2 ?hg (N := 51) ?hd (cs := #[.string (bs [])]) (t := 9) (n := 1) (c := 1) ?hr ?_; (case hd => rfl); (case hg => rfl); (case hr => first | (go_simp; done) | (go_simp; rfl)); intro g8 hg w8 hbox hb; have GE8 := Aside0.mk (Nat.le_of_eq hg.symm); have BK8 := Aside0.mk hbox; have HX8 := Aside0.mk hb; clear hg hbox hb)
      | ((with_reducible refine gate_builtin (b := .append) (xs := #[.tmp 50, .tmp 51]) rfl ?_); refine append_one_event eT_ok rfl rfl rfl rfl rfl (HBk8.out.below HX8.out).r2 (C_one eT_ok (x := []) BK8.out) ?_ ?_ ?_; (case refine_1 => have := HLn4.out; show (n2_8 + 1) * 16 ≤ _; omega); (case refine_2 => have := HLn4.out; omega); intro A8 c8 w9 hr ho hA; have HP8 := Aside0.mk ((HBk8.out.below HX8.out).put2 hr ho hA); have HO8 := Aside0.mk ho; have e1 : w9.cell? ⟨q, 1, none⟩ = some (.slice A2_8 n2_8 c2_8) := (blk_cell ((ho.block q (blk_lt (HBk8.out.below HX8.out).blk) (fun ⟨a, ha, e⟩ => (HBk8.out.below HX8.out).q2 a ha e.symm)).trans (HBk8.out.below HX8.out).blk) 1).trans rfl; have f1 : w9.frozen? ⟨q, 1, none⟩ = false := blk_frozen ((ho.block q (blk_lt (HBk8.out.below HX8.out).blk) (fun ⟨a, ha, e⟩ => (HBk8.out.below HX8.out).q2 a ha e.symm)).trans (HBk8.out.below HX8.out).blk) 1; clear hr ho hA d1)
      | fail)
    have HD10 := Aside0.mk ((HD7.out.below HX8.out).book ⟨_, _, _, _, _, _, _, _, _, HP8.out.1.mono (fun _ hk => okx_set hk)⟩ HP8.out.2)
    have BK10' := blk_below BK7.out HX8.out
    have BK10 : Aside0 ((w9.setCell ⟨q, 1, none⟩ (.slice A8 (n2_8 + 1) c8)).heap[g1]? = some (.cells #[.int .i64 kind, .string sA, .string sB, .slice B mB cB, .int .i64 N] 44 (0, 0))) := Aside0.mk ((heap_not (ne_kind (HO8.out.block g1 (blk_lt BK10') (fun ⟨a, ha, e⟩ => Own_kind (HBk8.out.below HX8.out).r2 a ha BK10' (by decide) e) |>.trans BK10') ((HO8.out.block q (blk_lt (HBk8.out.below HX8.out).blk) (fun ⟨a, ha, e⟩ => (HBk8.out.below HX8.out).q2 a ha e.symm)).trans (HBk8.out.below HX8.out).blk) (fun e => by injection e with _ e; exact absurd e (by decide)))).trans ((HO8.out.block g1 (blk_lt BK10') (fun ⟨a, ha, e⟩ => Own_kind (HBk8.out.below HX8.out).r2 a ha BK10' (by decide) e)).trans BK10'))
    clear BK10' HBk8 HP8 HO8 HX8 e1 f1
    generalize w9.setCell ⟨q, 1, none⟩ (.slice A8 (n2_8 + 1) c8) = w10 at *
    obtain ⟨A1_11, A2_11, A3_11, n1_11, n2_11, n3_11, c1_11, c2_11, c3_11, hbk⟩ := HD10.out.bk
    have HBk11 := Aside0.mk hbk
    have d2 : w10.cell? ⟨q, 2, none⟩ = some (.slice A3_11 n3_11 c3_11) := (blk_cell hbk.blk 2).trans rfl
    obtain rfl : n3_11 = n2_8 := hbk.r3.len.symm.trans HL.out.2.2
    clear hbk
    go_upto_region 12 with (first
      | ((with_reducible refine gate_dst (N := 60) rfl ?_); refine row_event2 ?hg (N := 60) ?hd (cs := #[.int .i64 0]) (t := 3) (n := 1) (c := 1) ?hr ?_; (case hd => rfl); (case hg => rfl); (case hr => first | (go_simp; done) | (go_simp; rfl)); intro g11 hg w11 hbox hb; have GE11 := Aside0.mk (Nat.le_of_eq hg.symm); have BK11 := Aside0.mk hbox; have HX11 := Aside0.mk hb; clear hg hbox hb)
      | ((with_reducible refine gate_builtin (b := .append) (xs := #[.tmp 59, .tmp 60]) rfl ?_); refine append_one_event eI_ok rfl rfl rfl rfl rfl (HBk11.out.below HX11.out).r3 (C_one eI_ok (x := 0) BK11.out) ?_ ?_ ?_; (case refine_1 => have := HLn4.out; show (n3_11 + 1) * 8 ≤ _; omega); (case refine_2 => have := HLn4.out; omega); intro A11 c11 w12 hr ho hA; have HP11 := Aside0.mk ((HBk11.out.below HX11.out).put3 hr ho hA); have HO11 := Aside0.mk ho; have e2 : w12.cell? ⟨q, 2, none⟩ = some (.slice A3_11 n3_11 c3_11) := (blk_cell ((ho.block q (blk_lt (HBk11.out.below HX11.out).blk) (fun ⟨a, ha, e⟩ => (HBk11.out.below HX11.out).q3 a ha e.symm)).trans (HBk11.out.below HX11.out).blk) 2).trans rfl; have f2 : w12.frozen? ⟨q, 2, none⟩ = false := blk_frozen ((ho.block q (blk_lt (HBk11.out.below HX11.out).blk) (fun ⟨a, ha, e⟩ => (HBk11.out.below HX11.out).q3 a ha e.symm)).trans (HBk11.out.below HX11.out).blk) 2; clear hr ho hA d2)
      | fail)
    have HD13 := Aside0.mk ((HD10.out.below HX11.out).book ⟨_, _, _, _, _, _, _, _, _, HP11.out.1.mono (fun _ hk => okx_set hk)⟩ HP11.out.2)
    have BK13' := blk_below BK10.out HX11.out
    have BK13 : Aside0 ((w12.setCell ⟨q, 2, none⟩ (.slice A11 (n3_11 + 1) c11)).heap[g1]? = some (.cells #[.int .i64 kind, .string sA, .string sB, .slice B mB cB, .int .i64 N] 44 (0, 0))) := Aside0.mk ((heap_not (ne_kind (HO11.out.block g1 (blk_lt BK13') (fun ⟨a, ha, e⟩ => Own_kind (HBk11.out.below HX11.out).r3 a ha BK13' (by decide) e) |>.trans BK13') ((HO11.out.block q (blk_lt (HBk11.out.below HX11.out).blk) (fun ⟨a, ha, e⟩ => (HBk11.out.below HX11.out).q3 a ha e.symm)).trans (HBk11.out.below HX11.out).blk) (fun e => by injection e with _ e; exact absurd e (by decide)))).trans ((HO11.out.block g1 (blk_lt BK13') (fun ⟨a, ha, e⟩ => Own_kind (HBk11.out.below HX11.out).r3 a ha BK13' (by decide) e)).trans BK13'))
    clear BK13' HBk11 HP11 HO11 HX11 e2 f2
    generalize w12.setCell ⟨q, 2, none⟩ (.slice A11 (n3_11 + 1) c11) = w13 at *
    have hsz : ¬ 9223372036854775807 < (bs []).size + (strOfNums xs).size := by rw [strOfNums_size, (HC.out w (Only.refl _ _)).1, bs_size]; have := HCat.out; simp; omega
    obtain ⟨A1, A2, A3, n1, n2, n3, c1, c2, c3, hbk0⟩ := HD13.out.bk
    have hbk : BkMs w13 _ q ⟨b.names ++ [s], b.bytes ++ [[]], b.syn ++ [0]⟩ A1 A2 A3 n1 n2 n3 c1 c2 c3 := hbk0
    obtain ⟨g2, e2, -, -, hc2, hf2⟩ := hbk.r2.at n3_11 [] (by have := HL.out.2.1; subst this; simp)
    have hl2 : (⟨b.names ++ [s], b.bytes ++ [[]], b.syn ++ [0]⟩ : BS).bytes.length = n2 := hbk.r2.len
    have hil2 : (n3_11 : Int) < (n2 : Int) := by
      have h1 := (List.getElem?_eq_some_iff.1 (show (⟨b.names ++ [s], b.bytes ++ [[]], b.syn ++ [0]⟩ : BS).bytes[n3_11]? = some [] from (by have := HL.out.2.1; subst this; simp))).1
      omega
    subst e2
    have HG := Aside0.mk (Own_kind hbk.r2 _ rfl BK13.out (by decide))
    have d1 : w13.cell? ⟨q, 1, none⟩ = some (.slice (some ⟨g2, 0, none⟩) n2 c2) := (blk_cell hbk.blk 1).trans rfl
    have hy : w13.cell? ⟨g2, n3_11, none⟩ = some (.string (bs [])) := hc2
    have ho3 : w13.cell? ⟨g1, 3, none⟩ = some (.slice B mB cB) := (blk_cell BK13.out 3).trans rfl
    have HSet := Aside0.mk (set_new hbk rfl HL.out.2.1 (strOfNums xs).data.toList)
    have HSt := Aside0.mk (Kd.C_string Try.underlying22 Try.underlying5 Try.underlying9 (c := cB) (Kd.C_drew (HC.out _ HD13.out.only)))
    clear hbk hbk0 hc2 hl2
    refine start_ (n := 18) (S := fun w' => w'.cell? ⟨q, 1, none⟩ = some (.slice (some ⟨g2, 0, none⟩) n2 c2) ∧ w'.cell? ⟨g2, n3_11, none⟩ = some (.string (bs [])) ∧ w'.frozen? ⟨g2, n3_11, none⟩ = false ∧ w'.cell? ⟨g1, 3, none⟩ = some (.slice B mB cB) ∧ (convert 22 9 (.slice B mB cB)).run Try.prog w' = .ok (.string (strOfNums xs)) w') (ds := [17]) #[false, false, false, false, false, false, false, false, false, false, false, false, false, false, false, false, false, false] (by kernel_rfl) rfl rfl ⟨d1, hy, hf2, ho3, HSt.out⟩ (fun hHeld => ?_)
    refine pure_ (i := 0) (N := some 64) (v := ?_) (a' := ?_) #[true, false, false, false, false, false, false, false, false, false, false, false, false, false, false, false, false, false] rfl rfl (by kernel_rfl) (fun _ _ _ h => h) (Or.inl ⟨by rfl, ?_⟩) ?_ ?_
    rotate_left
    · intro w'
      go_simp
      with_reducible rfl
    rotate_left
    · simp only [Act.put, List.setIfInBounds_toArray, List.set_cons_zero, List.set_cons_succ, i64_w, i32_w]
      rfl
    refine pure_ (i := 1) (N := some 65) (v := ?_) (a' := ?_) #[true, true, false, false, false, false, false, false, false, false, false, false, false, false, false, false, false, false] rfl rfl (by kernel_rfl) (fun _ _ _ h => h) (Or.inl ⟨by rfl, ?_⟩) ?_ ?_
    rotate_left
    · intro w'
      go_simp
      with_reducible rfl
    rotate_left
    · simp only [Act.put, List.setIfInBounds_toArray, List.set_cons_zero, List.set_cons_succ, i64_w, i32_w]
      rfl
    refine pure_ (i := 2) (N := some 66) (v := ?_) (a' := ?_) #[true, true, true, false, false, false, false, false, false, false, false, false, false, false, false, false, false, false] rfl rfl (by kernel_rfl) (fun _ _ _ h => h) (Or.inl ⟨by rfl, ?_⟩) ?_ ?_
    rotate_left
    · intro w'
      go_simp
      with_reducible rfl
    rotate_left
    · simp only [Act.put, List.setIfInBounds_toArray, List.set_cons_zero, List.set_cons_succ, i64_w, i32_w]
      rfl
    refine pure_ (i := 4) (N := some 68) (v := ?_) (a' := ?_) #[true, true, true, false, true, false, false, false, false, false, false, false, false, false, false, false, false, false] rfl rfl (by kernel_rfl) (fun _ _ _ h => h) (Or.inl ⟨by rfl, ?_⟩) ?_ ?_
    rotate_left
    · intro w'
      go_simp
      with_reducible rfl
    rotate_left
    · simp only [Act.put, List.setIfInBounds_toArray, List.set_cons_zero, List.set_cons_succ, i64_w, i32_w]
      rfl
    refine pure_ (i := 5) (N := some 69) (v := ?_) (a' := ?_) #[true, true, true, false, true, true, false, false, false, false, false, false, false, false, false, false, false, false] rfl rfl (by kernel_rfl) (fun _ _ _ h => h) (Or.inl ⟨by rfl, ?_⟩) ?_ ?_
    rotate_left
    · intro w'
      go_simp
      with_reducible rfl
    rotate_left
    · simp only [Act.put, List.setIfInBounds_toArray, List.set_cons_zero, List.set_cons_succ, i64_w, i32_w]
      rfl
    refine pure_ (i := 6) (N := some 70) (v := ?_) (a' := ?_) #[true, true, true, false, true, true, true, false, false, false, false, false, false, false, false, false, false, false] rfl rfl (by kernel_rfl) (fun _ _ _ h => h) (Or.inl ⟨by rfl, ?_⟩) ?_ ?_
    rotate_left
    · intro w'
      go_simp
      with_reducible rfl
    rotate_left
    · simp only [Act.put, List.setIfInBounds_toArray, List.set_cons_zero, List.set_cons_succ, i64_w, i32_w]
      rfl
    refine pure_ (i := 7) (N := some 71) (v := ?_) (a' := ?_) #[true, true, true, false, true, true, true, true, false, false, false, false, false, false, false, false, false, false] rfl rfl (by kernel_rfl) (fun _ _ _ h => h) (Or.inl ⟨by rfl, ?_⟩) ?_ ?_
    rotate_left
    · intro w'
      go_simp
      with_reducible rfl
    rotate_left
    · simp only [Act.put, List.setIfInBounds_toArray, List.set_cons_zero, List.set_cons_succ, i64_w, i32_w]
      rfl
    refine pure_ (i := 9) (N := some 73) (v := ?_) (a' := ?_) #[true, true, true, false, true, true, true, true, false, true, false, false, false, false, false, false, false, false] rfl rfl (by kernel_rfl) (fun _ _ _ h => h) (Or.inl ⟨by rfl, ?_⟩) ?_ ?_
    rotate_left
    · intro w'
      go_simp
      with_reducible rfl
    rotate_left
    · simp only [Act.put, List.setIfInBounds_toArray, List.set_cons_zero, List.set_cons_succ, i64_w, i32_w]
      rfl
    refine pure_ (i := 12) (N := some 76) (v := ?_) (a' := ?_) #[true, true, true, false, true, true, true, true, false, true, false, false, true, false, false, false, false, false] rfl rfl (by kernel_rfl) (fun _ _ _ h => h) (Or.inl ⟨by rfl, ?_⟩) ?_ ?_
    rotate_left
    · intro w'
      go_simp
      with_reducible rfl
    rotate_left
    · simp only [Act.put, List.setIfInBounds_toArray, List.set_cons_zero, List.set_cons_succ, i64_w, i32_w]
      rfl
    refine take_ (i := 3) (N := some 67) (v := ?_) (a' := ?_) #[true, true, true, true, true, true, true, true, false, true, false, false, true, false, false, false, false, false] rfl rfl (by kernel_rfl) (fun _ _ _ h => h) (Or.inl ⟨by rfl, ?_⟩) hHeld ?_ ?_
    rotate_left
    · rintro w' ⟨s0, s1, s2, s3, s4⟩
      go_simp
      with_reducible rfl
    rotate_left
    · simp only [Act.put, List.setIfInBounds_toArray, List.set_cons_zero, List.set_cons_succ, i64_w, i32_w]
      rfl
    refine take_ (i := 8) (N := some 72) (v := ?_) (a' := ?_) #[true, true, true, true, true, true, true, true, true, true, false, false, true, false, false, false, false, false] rfl rfl (by kernel_rfl) (fun _ _ _ h => h) (Or.inl ⟨by rfl, ?_⟩) hHeld ?_ ?_
    rotate_left
    · rintro w' ⟨s0, s1, s2, s3, s4⟩
      go_simp
      with_reducible rfl
    rotate_left
    · simp only [Act.put, List.setIfInBounds_toArray, List.set_cons_zero, List.set_cons_succ, i64_w, i32_w]
      rfl
    refine pure_ (i := 10) (N := some 74) (v := ?_) (a' := ?_) #[true, true, true, true, true, true, true, true, true, true, true, false, true, false, false, false, false, false] rfl rfl (by kernel_rfl) (fun _ _ _ h => h) (Or.inl ⟨by rfl, ?_⟩) ?_ ?_
    rotate_left
    · intro w'
      go_simp
      with_reducible rfl
    rotate_left
    · simp only [Act.put, List.setIfInBounds_toArray, List.set_cons_zero, List.set_cons_succ, i64_w, i32_w]
      rfl
    refine take_ (i := 11) (N := some 75) (v := ?_) (a' := ?_) #[true, true, true, true, true, true, true, true, true, true, true, true, true, false, false, false, false, false] rfl rfl (by kernel_rfl) (fun _ _ _ h => h) (Or.inl ⟨by rfl, ?_⟩) hHeld ?_ ?_
    rotate_left
    · rintro w' ⟨s0, s1, s2, s3, s4⟩
      go_simp
      with_reducible rfl
    rotate_left
    · simp only [Act.put, List.setIfInBounds_toArray, List.set_cons_zero, List.set_cons_succ, i64_w, i32_w]
      rfl
    refine take_ (i := 13) (N := some 77) (v := ?_) (a' := ?_) #[true, true, true, true, true, true, true, true, true, true, true, true, true, true, false, false, false, false] rfl rfl (by kernel_rfl) (fun _ _ _ h => h) (Or.inl ⟨by rfl, ?_⟩) hHeld ?_ ?_
    rotate_left
    · rintro w' ⟨s0, s1, s2, s3, s4⟩
      go_simp
      with_reducible rfl
    rotate_left
    · simp only [Act.put, List.setIfInBounds_toArray, List.set_cons_zero, List.set_cons_succ, i64_w, i32_w]
      rfl
    refine take_ (i := 14) (N := some 78) (v := ?_) (a' := ?_) #[true, true, true, true, true, true, true, true, true, true, true, true, true, true, true, false, false, false] rfl rfl (by kernel_rfl) (fun _ _ _ h => h) (Or.inl ⟨by rfl, ?_⟩) hHeld ?_ ?_
    rotate_left
    · rintro w' ⟨s0, s1, s2, s3, s4⟩
      go_simp
      with_reducible rfl
    rotate_left
    · simp only [Act.put, List.setIfInBounds_toArray, List.set_cons_zero, List.set_cons_succ, i64_w, i32_w]
      rfl
    refine pure_ (i := 15) (N := some 79) (v := ?_) (a' := ?_) #[true, true, true, true, true, true, true, true, true, true, true, true, true, true, true, true, false, false] rfl rfl (by kernel_rfl) (fun _ _ _ h => h) (Or.inl ⟨by rfl, ?_⟩) ?_ ?_
    rotate_left
    · intro w'
      go_simp
      with_reducible rfl
    rotate_left
    · simp only [Act.put, List.setIfInBounds_toArray, List.set_cons_zero, List.set_cons_succ, i64_w, i32_w]
      rfl
    refine pure_ (i := 16) (N := some 80) (v := ?_) (a' := ?_) #[true, true, true, true, true, true, true, true, true, true, true, true, true, true, true, true, true, false] rfl rfl (by kernel_rfl) (fun _ _ _ h => h) (Or.inl ⟨by rfl, ?_⟩) ?_ ?_
    rotate_left
    · intro w'
      go_simp
      with_reducible rfl
    rotate_left
    · simp only [Act.put, List.setIfInBounds_toArray, List.set_cons_zero, List.set_cons_succ, i64_w, i32_w]
      rfl
    refine last_ (i := 17) (N := none) #[true, true, true, true, true, true, true, true, true, true, true, true, true, true, true, true, true, true] rfl rfl (by kernel_rfl) (by decide) (fun K hK => ?_)
    refine skip_ (w1 := ?_) (by rfl) rfl ?_ ?_
    rotate_left
    · go_simp
      rfl
    refine hK.out _ _ ?_
    clear hK K
    refine done_ (by kernel_rfl) ?_
    clear hHeld d1 hy hf2 ho3 HSt
    rw [cat_ts]
    have HD33 := Aside0.mk (HD13.out.book ⟨_, _, _, _, _, _, _, _, _, (HSet.out.1.below (drew_below _)).mono (fun _ hk => .inl hk)⟩ HSet.out.2.drew)
    have BK33 : Aside0 (((w13.setCell ⟨g2, n3_11, none⟩ (.string (bs ([] ++ (strOfNums xs).data.toList)))).drew).heap[g1]? = some (.cells #[.int .i64 kind, .string sA, .string sB, .slice B mB cB, .int .i64 N] 44 (0, 0))) := Aside0.mk ((heap_not HG.out).trans BK13.out)
    clear HSet HG
    generalize (w13.setCell ⟨g2, n3_11, none⟩ (.string (bs ([] ++ (strOfNums xs).data.toList)))).drew = w33 at *
    have ho3 : w33.cell? ⟨g1, 3, none⟩ = some (.slice B mB cB) := (blk_cell BK33.out 3).trans rfl
    go_wp2_with fail
    refine (append_calls w33 _ p mB cB d s B xs HD33.out.dk HSh.out HOp.out (HC.out _ HD33.out.only) HFit.out).mono ?_
    rintro e w34 ⟨rfl, hd, ho⟩
    have HD34 := Aside0.mk (HD33.out.disk hd ho)
    clear hd ho ho3 HD33
    obtain ⟨⟨d6, r6⟩, hrs⟩ : ∃ rs, rs = appendS d s xs := ⟨_, rfl⟩
    rw [← hrs] at HD34 ⊢
    have HRs := Aside0.mk hrs.symm
    clear hrs
    simp only at HD34 ⊢
    have HE := Aside0.mk (show noteAppend d b s xs = (d6, ⟨b.names ++ [s], b.bytes ++ [txtI xs], b.syn ++ [0]⟩, r6 == 0) by unfold noteAppend BS.put; rw [HRs.out, if_neg (by rw [← HIx.out]; omega)])
    go_wp2_with fail
    go_ret
    rw [HE.out]
    exact ⟨rfl, _, _, HD34.out⟩
  · have hx1 : decide (ix < 0) = false := decide_eq_false hx
    have HIx0 := Aside0.mk (show 0 ≤ ix by omega)
    obtain ⟨i, hi, hil, -⟩ := idxT_nat (names := b.names) (s := s) (by rw [← HIx.out]; exact HIx0.out)
    obtain rfl : ix = (i : Int) := HIx.out.trans hi
    rw [hi, Int.toNat_natCast] at HCat
    rw [HL.out.1] at hil
    clear hi hx HIx0
    have HY := Aside0.mk (show b.bytes[i]? = some (b.bytes.getD i []) by rw [List.getD_eq_getElem?_getD, List.getElem?_eq_getElem (by rw [HL.out.2.1]; exact hil)]; rfl)
    obtain ⟨y, hyy⟩ : ∃ y, y = b.bytes.getD i [] := ⟨_, rfl⟩
    have HYe := Aside0.mk hyy
    rw [← hyy] at HY HCat
    have hsz : ¬ 9223372036854775807 < (bs y).size + (strOfNums xs).size := by rw [strOfNums_size, (HC.out w (Only.refl _ _)).1, bs_size]; have := HCat.out; omega
    clear hyy
    go_wp2_with fail
    obtain ⟨A1, A2, A3, n1, n2, n3, c1, c2, c3, hbk0⟩ := HD4.out.bk
    have hbk : BkMs w4 _ q b A1 A2 A3 n1 n2 n3 c1 c2 c3 := hbk0
    obtain ⟨g2, e2, -, -, hc2, hf2⟩ := hbk.r2.at i y HY.out
    have hl2 : (b : BS).bytes.length = n2 := hbk.r2.len
    have hil2 : (i : Int) < (n2 : Int) := by
      have h1 := (List.getElem?_eq_some_iff.1 (show (b : BS).bytes[i]? = some y from HY.out)).1
      omega
    subst e2
    have HG := Aside0.mk (Own_kind hbk.r2 _ rfl BK4.out (by decide))
    have d1 : w4.cell? ⟨q, 1, none⟩ = some (.slice (some ⟨g2, 0, none⟩) n2 c2) := (blk_cell hbk.blk 1).trans rfl
    have hy : w4.cell? ⟨g2, i, none⟩ = some (.string (bs y)) := hc2
    have ho3 : w4.cell? ⟨g1, 3, none⟩ = some (.slice B mB cB) := (blk_cell BK4.out 3).trans rfl
    have HSet := Aside0.mk (hbk.set2 rfl i (y ++ (strOfNums xs).data.toList))
    have HSt := Aside0.mk (Kd.C_string Try.underlying22 Try.underlying5 Try.underlying9 (c := cB) (Kd.C_drew (HC.out _ HD4.out.only)))
    clear hbk hbk0 hc2 hl2
    refine start_ (n := 18) (S := fun w' => w'.cell? ⟨q, 1, none⟩ = some (.slice (some ⟨g2, 0, none⟩) n2 c2) ∧ w'.cell? ⟨g2, i, none⟩ = some (.string (bs y)) ∧ w'.frozen? ⟨g2, i, none⟩ = false ∧ w'.cell? ⟨g1, 3, none⟩ = some (.slice B mB cB) ∧ (convert 22 9 (.slice B mB cB)).run Try.prog w' = .ok (.string (strOfNums xs)) w') (ds := [17]) #[false, false, false, false, false, false, false, false, false, false, false, false, false, false, false, false, false, false] (by kernel_rfl) rfl rfl ⟨d1, hy, hf2, ho3, HSt.out⟩ (fun hHeld => ?_)
    refine pure_ (i := 0) (N := some 64) (v := ?_) (a' := ?_) #[true, false, false, false, false, false, false, false, false, false, false, false, false, false, false, false, false, false] rfl rfl (by kernel_rfl) (fun _ _ _ h => h) (Or.inl ⟨by rfl, ?_⟩) ?_ ?_
    rotate_left
    · intro w'
      go_simp
      with_reducible rfl
    rotate_left
    · simp only [Act.put, List.setIfInBounds_toArray, List.set_cons_zero, List.set_cons_succ, i64_w, i32_w]
      rfl
    refine pure_ (i := 1) (N := some 65) (v := ?_) (a' := ?_) #[true, true, false, false, false, false, false, false, false, false, false, false, false, false, false, false, false, false] rfl rfl (by kernel_rfl) (fun _ _ _ h => h) (Or.inl ⟨by rfl, ?_⟩) ?_ ?_
    rotate_left
    · intro w'
      go_simp
      with_reducible rfl
    rotate_left
    · simp only [Act.put, List.setIfInBounds_toArray, List.set_cons_zero, List.set_cons_succ, i64_w, i32_w]
      rfl
    refine pure_ (i := 2) (N := some 66) (v := ?_) (a' := ?_) #[true, true, true, false, false, false, false, false, false, false, false, false, false, false, false, false, false, false] rfl rfl (by kernel_rfl) (fun _ _ _ h => h) (Or.inl ⟨by rfl, ?_⟩) ?_ ?_
    rotate_left
    · intro w'
      go_simp
      with_reducible rfl
    rotate_left
    · simp only [Act.put, List.setIfInBounds_toArray, List.set_cons_zero, List.set_cons_succ, i64_w, i32_w]
      rfl
    refine pure_ (i := 4) (N := some 68) (v := ?_) (a' := ?_) #[true, true, true, false, true, false, false, false, false, false, false, false, false, false, false, false, false, false] rfl rfl (by kernel_rfl) (fun _ _ _ h => h) (Or.inl ⟨by rfl, ?_⟩) ?_ ?_
    rotate_left
    · intro w'
      go_simp
      with_reducible rfl
    rotate_left
    · simp only [Act.put, List.setIfInBounds_toArray, List.set_cons_zero, List.set_cons_succ, i64_w, i32_w]
      rfl
    refine pure_ (i := 5) (N := some 69) (v := ?_) (a' := ?_) #[true, true, true, false, true, true, false, false, false, false, false, false, false, false, false, false, false, false] rfl rfl (by kernel_rfl) (fun _ _ _ h => h) (Or.inl ⟨by rfl, ?_⟩) ?_ ?_
    rotate_left
    · intro w'
      go_simp
      with_reducible rfl
    rotate_left
    · simp only [Act.put, List.setIfInBounds_toArray, List.set_cons_zero, List.set_cons_succ, i64_w, i32_w]
      rfl
    refine pure_ (i := 6) (N := some 70) (v := ?_) (a' := ?_) #[true, true, true, false, true, true, true, false, false, false, false, false, false, false, false, false, false, false] rfl rfl (by kernel_rfl) (fun _ _ _ h => h) (Or.inl ⟨by rfl, ?_⟩) ?_ ?_
    rotate_left
    · intro w'
      go_simp
      with_reducible rfl
    rotate_left
    · simp only [Act.put, List.setIfInBounds_toArray, List.set_cons_zero, List.set_cons_succ, i64_w, i32_w]
      rfl
    refine pure_ (i := 7) (N := some 71) (v := ?_) (a' := ?_) #[true, true, true, false, true, true, true, true, false, false, false, false, false, false, false, false, false, false] rfl rfl (by kernel_rfl) (fun _ _ _ h => h) (Or.inl ⟨by rfl, ?_⟩) ?_ ?_
    rotate_left
    · intro w'
      go_simp
      with_reducible rfl
    rotate_left
    · simp only [Act.put, List.setIfInBounds_toArray, List.set_cons_zero, List.set_cons_succ, i64_w, i32_w]
      rfl
    refine pure_ (i := 9) (N := some 73) (v := ?_) (a' := ?_) #[true, true, true, false, true, true, true, true, false, true, false, false, false, false, false, false, false, false] rfl rfl (by kernel_rfl) (fun _ _ _ h => h) (Or.inl ⟨by rfl, ?_⟩) ?_ ?_
    rotate_left
    · intro w'
      go_simp
      with_reducible rfl
    rotate_left
    · simp only [Act.put, List.setIfInBounds_toArray, List.set_cons_zero, List.set_cons_succ, i64_w, i32_w]
      rfl
    refine pure_ (i := 12) (N := some 76) (v := ?_) (a' := ?_) #[true, true, true, false, true, true, true, true, false, true, false, false, true, false, false, false, false, false] rfl rfl (by kernel_rfl) (fun _ _ _ h => h) (Or.inl ⟨by rfl, ?_⟩) ?_ ?_
    rotate_left
    · intro w'
      go_simp
      with_reducible rfl
    rotate_left
    · simp only [Act.put, List.setIfInBounds_toArray, List.set_cons_zero, List.set_cons_succ, i64_w, i32_w]
      rfl
    refine take_ (i := 3) (N := some 67) (v := ?_) (a' := ?_) #[true, true, true, true, true, true, true, true, false, true, false, false, true, false, false, false, false, false] rfl rfl (by kernel_rfl) (fun _ _ _ h => h) (Or.inl ⟨by rfl, ?_⟩) hHeld ?_ ?_
    rotate_left
    · rintro w' ⟨s0, s1, s2, s3, s4⟩
      go_simp
      with_reducible rfl
    rotate_left
    · simp only [Act.put, List.setIfInBounds_toArray, List.set_cons_zero, List.set_cons_succ, i64_w, i32_w]
      rfl
    refine take_ (i := 8) (N := some 72) (v := ?_) (a' := ?_) #[true, true, true, true, true, true, true, true, true, true, false, false, true, false, false, false, false, false] rfl rfl (by kernel_rfl) (fun _ _ _ h => h) (Or.inl ⟨by rfl, ?_⟩) hHeld ?_ ?_
    rotate_left
    · rintro w' ⟨s0, s1, s2, s3, s4⟩
      go_simp
      with_reducible rfl
    rotate_left
    · simp only [Act.put, List.setIfInBounds_toArray, List.set_cons_zero, List.set_cons_succ, i64_w, i32_w]
      rfl
    refine pure_ (i := 10) (N := some 74) (v := ?_) (a' := ?_) #[true, true, true, true, true, true, true, true, true, true, true, false, true, false, false, false, false, false] rfl rfl (by kernel_rfl) (fun _ _ _ h => h) (Or.inl ⟨by rfl, ?_⟩) ?_ ?_
    rotate_left
    · intro w'
      go_simp
      with_reducible rfl
    rotate_left
    · simp only [Act.put, List.setIfInBounds_toArray, List.set_cons_zero, List.set_cons_succ, i64_w, i32_w]
      rfl
    refine take_ (i := 11) (N := some 75) (v := ?_) (a' := ?_) #[true, true, true, true, true, true, true, true, true, true, true, true, true, false, false, false, false, false] rfl rfl (by kernel_rfl) (fun _ _ _ h => h) (Or.inl ⟨by rfl, ?_⟩) hHeld ?_ ?_
    rotate_left
    · rintro w' ⟨s0, s1, s2, s3, s4⟩
      go_simp
      with_reducible rfl
    rotate_left
    · simp only [Act.put, List.setIfInBounds_toArray, List.set_cons_zero, List.set_cons_succ, i64_w, i32_w]
      rfl
    refine take_ (i := 13) (N := some 77) (v := ?_) (a' := ?_) #[true, true, true, true, true, true, true, true, true, true, true, true, true, true, false, false, false, false] rfl rfl (by kernel_rfl) (fun _ _ _ h => h) (Or.inl ⟨by rfl, ?_⟩) hHeld ?_ ?_
    rotate_left
    · rintro w' ⟨s0, s1, s2, s3, s4⟩
      go_simp
      with_reducible rfl
    rotate_left
    · simp only [Act.put, List.setIfInBounds_toArray, List.set_cons_zero, List.set_cons_succ, i64_w, i32_w]
      rfl
    refine take_ (i := 14) (N := some 78) (v := ?_) (a' := ?_) #[true, true, true, true, true, true, true, true, true, true, true, true, true, true, true, false, false, false] rfl rfl (by kernel_rfl) (fun _ _ _ h => h) (Or.inl ⟨by rfl, ?_⟩) hHeld ?_ ?_
    rotate_left
    · rintro w' ⟨s0, s1, s2, s3, s4⟩
      go_simp
      with_reducible rfl
    rotate_left
    · simp only [Act.put, List.setIfInBounds_toArray, List.set_cons_zero, List.set_cons_succ, i64_w, i32_w]
      rfl
    refine pure_ (i := 15) (N := some 79) (v := ?_) (a' := ?_) #[true, true, true, true, true, true, true, true, true, true, true, true, true, true, true, true, false, false] rfl rfl (by kernel_rfl) (fun _ _ _ h => h) (Or.inl ⟨by rfl, ?_⟩) ?_ ?_
    rotate_left
    · intro w'
      go_simp
      with_reducible rfl
    rotate_left
    · simp only [Act.put, List.setIfInBounds_toArray, List.set_cons_zero, List.set_cons_succ, i64_w, i32_w]
      rfl
    refine pure_ (i := 16) (N := some 80) (v := ?_) (a' := ?_) #[true, true, true, true, true, true, true, true, true, true, true, true, true, true, true, true, true, false] rfl rfl (by kernel_rfl) (fun _ _ _ h => h) (Or.inl ⟨by rfl, ?_⟩) ?_ ?_
    rotate_left
    · intro w'
      go_simp
      with_reducible rfl
    rotate_left
    · simp only [Act.put, List.setIfInBounds_toArray, List.set_cons_zero, List.set_cons_succ, i64_w, i32_w]
      rfl
    refine last_ (i := 17) (N := none) #[true, true, true, true, true, true, true, true, true, true, true, true, true, true, true, true, true, true] rfl rfl (by kernel_rfl) (by decide) (fun K hK => ?_)
    refine skip_ (w1 := ?_) (by rfl) rfl ?_ ?_
    rotate_left
    · go_simp
      rfl
    refine hK.out _ _ ?_
    clear hK K
    refine done_ (by kernel_rfl) ?_
    clear hHeld d1 hy hf2 ho3 HSt
    rw [cat_ts]
    have HD24 := Aside0.mk (HD4.out.book ⟨_, _, _, _, _, _, _, _, _, (HSet.out.1.below (drew_below _)).mono (fun _ hk => .inl hk)⟩ HSet.out.2.drew)
    have BK24 : Aside0 (((w4.setCell ⟨g2, i, none⟩ (.string (bs (y ++ (strOfNums xs).data.toList)))).drew).heap[g1]? = some (.cells #[.int .i64 kind, .string sA, .string sB, .slice B mB cB, .int .i64 N] 44 (0, 0))) := Aside0.mk ((heap_not HG.out).trans BK4.out)
    clear HSet HG
    generalize (w4.setCell ⟨g2, i, none⟩ (.string (bs (y ++ (strOfNums xs).data.toList)))).drew = w24 at *
    have ho3 : w24.cell? ⟨g1, 3, none⟩ = some (.slice B mB cB) := (blk_cell BK24.out 3).trans rfl
    go_wp2_with fail
    refine (append_calls w24 _ p mB cB d s B xs HD24.out.dk HSh.out HOp.out (HC.out _ HD24.out.only) HFit.out).mono ?_
    rintro e w25 ⟨rfl, hd, ho⟩
    have HD25 := Aside0.mk (HD24.out.disk hd ho)
    clear hd ho ho3 HD24
    obtain ⟨⟨d6, r6⟩, hrs⟩ : ∃ rs, rs = appendS d s xs := ⟨_, rfl⟩
    rw [← hrs] at HD25 ⊢
    have HRs := Aside0.mk hrs.symm
    clear hrs
    simp only at HD25 ⊢
    have HE := Aside0.mk (show noteAppend d b s xs = (d6, { b with bytes := b.bytes.set i (y ++ txtI xs) }, r6 == 0) by unfold noteAppend BS.put; rw [HRs.out, ← HIx.out, if_pos (by omega), Int.toNat_natCast, ← HYe.out])
    go_wp2_with fail
    go_ret
    rw [HE.out]
    exact ⟨rfl, _, _, HD25.out⟩
end Go.Proofs.Ytabomfmjepmkjaa.Dk
end

section
namespace Go.Proofs.Ytabomfmjepmkjaa.Dk
set_option linter.unusedVariables false
set_option linter.unusedSimpArgs false
open Go.RowKit Go.Proofs.YtabomfmjepmkjaaW.PrintWords Go.Proofs.YtabomfmjepmkjaaW.PrintLast Go.Proofs.YtabomfmjepmkjaaW.PrintMore Go.Proofs.Ytabomfmjepmkjaa.Lib Go.Proofs.Ytabomfmjepmkjaa.Mem Go.Proofs.Ytabomfmjepmkjaa.Txt
open Go.MapKept Go.ChangeMaps
set_option maxRecDepth 100000 in
set_option maxHeartbeats 3200000 in
theorem note_sync (w : World) (Od Ob : Nat → Prop) (p q : Nat) (d : DS) (b : BS) (kind a N : Int) (sA sB : ByteArray) (B : Option Addr) (mB cB n : Nat) (xs : List Int) (hd : DkAt w Od p d) (hb : BkAt w Ob q b) (hap : ∀ k, Od k → ¬ Ob k)
    (hl1 : b.names.length = n) (hl2 : b.bytes.length = n) (hl3 : b.syn.length = n) (hn : n < 1000000) (hA : sA.size < 4611686018427387904) (hB : sB.size < 4611686018427387904) (hC : ∀ w', Only (fun k => Od k ∨ Ob k) w w' → Kd.C (Kd.int .u8) w' B mB xs) (ha : P.gristmilllaw12_abs.f kind = some a) (hk : Int.tmod a 6 = 3) (ho : ops62 d) :
    Calls Try.prog 20 #[.pointer (some ⟨q, 0, none⟩), .pointer (some ⟨p, 0, none⟩), .agg #[.int .i64 kind, .string sA, .string sB, .slice B mB cB, .int .i64 N]] w fun e w' => e = .returned (.bool (noteSync d b (nameT sA.size)).2.2) ∧ Noted w w' Od Ob p q (noteSync d b (nameT sA.size)).1 (noteSync d b (nameT sA.size)).2.1 := by
  have HD0 := Aside0.mk (DB.start hd hb hap)
  have HL := Aside0.mk (And.intro hl1 (And.intro hl2 hl3))
  have HN := Aside0.mk hn
  have HAb := Aside0.mk ha
  have HOp := Aside0.mk ho
  have HC := Aside0.mk hC
  have HB := Aside0.mk hB
  have HName := Aside0.mk (name_f sA.size (by omega))
  have HSh := Aside0.mk (show Shorts [nameT sA.size] from fun t ht => by rw [List.mem_singleton.1 ht]; have := nameT_len sA.size; omega)
  have HNd := Aside0.mk (nameT_named sA.size)
  generalize nameT sA.size = s at *
  clear hd hb hap hl1 hl2 hl3 ha ho hC hB hA hn
  go_enter Try.func20, Try.ntmps20
  go_wp2_with (first
    | (((with_reducible refine gate_dst (N := 5) rfl ?_); refine box_event ?hg (N := 5) ?hd (cs := #[.int .i64 kind, .string sA, .string sB, .slice B mB cB, .int .i64 N]) (t := 44) ?hr ?_; (case hd => rfl); (case hg => rfl); (case hr => first | (go_simp; done) | (go_simp; rfl)); intro g1 hg w1 hbox hb; have GE1 := Aside0.mk (Nat.le_of_eq hg.symm); have BK1 := Aside0.mk hbox; have HX1 := Aside0.mk hb; clear hg hbox hb); (have hg1_0 : w1.cell? ⟨g1, 0, none⟩ = some (.int .i64 kind) := (blk_cell BK1.out 0).trans rfl; have hfg1_0 := blk_frozen BK1.out 0; have hg1_1 : w1.cell? ⟨g1, 1, none⟩ = some (.string sA) := (blk_cell BK1.out 1).trans rfl; have hfg1_1 := blk_frozen BK1.out 1; have hg1_2 : w1.cell? ⟨g1, 2, none⟩ = some (.string sB) := (blk_cell BK1.out 2).trans rfl; have hfg1_2 := blk_frozen BK1.out 2; have hg1_3 : w1.cell? ⟨g1, 3, none⟩ = some (.slice B mB cB) := (blk_cell BK1.out 3).trans rfl; have hfg1_3 := blk_frozen BK1.out 3; have hg1_4 : w1.cell? ⟨g1, 4, none⟩ = some (.int .i64 N) := (blk_cell BK1.out 4).trans rfl; have hfg1_4 := blk_frozen BK1.out 4))
    | fail)
  refine (P.gristmilllaw12_name.calls (sA.size : Int) (bs s) w1 HName.out).mono ?_
  rintro e w2 ⟨rfl, hb2⟩
  have BK2 := Aside0.mk (blk_below BK1.out hb2)
  have HD2 := Aside0.mk ((HD0.out.below HX1.out).below hb2)
  clear hg1_0 hfg1_0 hg1_1 hfg1_1 hg1_2 hfg1_2 hg1_3 hfg1_3 hg1_4 hfg1_4
  clear hb2 HD0 HX1
  go_wp2_with fail
  refine (at_calls w2 _ q b s HD2.out.bk (by rw [HL.out.1]; exact HN.out)).mono ?_
  rintro e w3 ⟨rfl, hb3⟩
  have BK3 := Aside0.mk (blk_below BK2.out hb3)
  have HD3 := Aside0.mk (HD2.out.below hb3)
  clear hb3 HD2
  (have hg1_0 : w3.cell? ⟨g1, 0, none⟩ = some (.int .i64 kind) := (blk_cell BK3.out 0).trans rfl; have hfg1_0 := blk_frozen BK3.out 0; have hg1_1 : w3.cell? ⟨g1, 1, none⟩ = some (.string sA) := (blk_cell BK3.out 1).trans rfl; have hfg1_1 := blk_frozen BK3.out 1; have hg1_2 : w3.cell? ⟨g1, 2, none⟩ = some (.string sB) := (blk_cell BK3.out 2).trans rfl; have hfg1_2 := blk_frozen BK3.out 2; have hg1_3 : w3.cell? ⟨g1, 3, none⟩ = some (.slice B mB cB) := (blk_cell BK3.out 3).trans rfl; have hfg1_3 := blk_frozen BK3.out 3; have hg1_4 : w3.cell? ⟨g1, 4, none⟩ = some (.int .i64 N) := (blk_cell BK3.out 4).trans rfl; have hfg1_4 := blk_frozen BK3.out 4)
  go_wp2_with fail
  refine (P.gristmilllaw12_abs.calls kind a w3 HAb.out).mono ?_
  rintro e w4 ⟨rfl, hdr⟩
  have BK4 := Aside0.mk (blk_below BK3.out hdr.below)
  have HD4 := Aside0.mk (HD3.out.below hdr.below)
  clear hg1_0 hfg1_0 hg1_1 hfg1_1 hg1_2 hfg1_2 hg1_3 hfg1_3 hg1_4 hfg1_4
  clear hdr HD3
  obtain ⟨ix, hix⟩ : ∃ ix, ix = idxT b.names s := ⟨_, rfl⟩
  have HIx := Aside0.mk hix
  rw [← hix]
  clear hix
  go_wp2_with fail
  refine (sync_calls w4 _ p d s HD4.out.dk HSh.out HOp.out).mono ?_
  rintro e w5 ⟨rfl, hd5, ho5⟩
  have HD5 := Aside0.mk (HD4.out.disk' hd5 ho5)
  clear hd5 ho5 HD4
  obtain ⟨⟨d5, r5⟩, hrs⟩ : ∃ rs, rs = syncS d s := ⟨_, rfl⟩
  rw [← hrs] at HD5 ⊢
  have HRs := Aside0.mk hrs.symm
  clear hrs
  simp only at HD5 ⊢
  by_cases hx : 0 ≤ ix
  · have HE := Aside0.mk (show noteSync d b s = (d5, { b with syn := b.syn.set ix.toNat (b.bytes.getD ix.toNat []).length }, r5 == 0) by
      unfold noteSync; rw [HRs.out, ← HIx.out, if_pos hx, decide_eq_true hx, beqT])
    obtain ⟨i, hi, hil, -⟩ := idxT_nat (names := b.names) (s := s) (by rw [← HIx.out]; exact hx)
    obtain rfl : ix = (i : Int) := HIx.out.trans hi
    clear hi
    rw [HL.out.1] at hil
    rw [Int.toNat_natCast] at HE
    obtain ⟨A1, A2, A3, n1, n2, n3, c1, c2, c3, hbk⟩ := HD5.out.bk
    obtain ⟨g2, e2, -, -, hc2, -⟩ := hbk.r2.at i (b.bytes.getD i []) (by rw [List.getD_eq_getElem?_getD, List.getElem?_eq_getElem (by rw [HL.out.2.1]; exact hil)]; rfl)
    obtain ⟨g3, e3, -, -, hc3, hf3⟩ := hbk.r3.at i (b.syn.getD i 0) (by rw [List.getD_eq_getElem?_getD, List.getElem?_eq_getElem (by rw [HL.out.2.2]; exact hil)]; rfl)
    obtain rfl : n2 = n := hbk.r2.len.symm.trans HL.out.2.1
    obtain rfl : n3 = n2 := hbk.r3.len.symm.trans HL.out.2.2
    subst e2 e3
    generalize b.bytes.getD i [] = y at *
    generalize b.syn.getD i 0 = z at *
    have d1 : w5.cell? ⟨q, 1, none⟩ = some (.slice (some ⟨g2, 0, none⟩) n3 c2) := (blk_cell hbk.blk 1).trans rfl
    have d2 : w5.cell? ⟨q, 2, none⟩ = some (.slice (some ⟨g3, 0, none⟩) n3 c3) := (blk_cell hbk.blk 2).trans rfl
    have hy : w5.cell? ⟨g2, i, none⟩ = some (.string (bs y)) := hc2
    have hz : w5.cell? ⟨g3, i, none⟩ = some (.int .i64 z) := hc3
    have HSet := Aside0.mk (hbk.set3 rfl i (y.length : Int))
    have hil2 : (i : Int) < (n3 : Int) := by omega
    clear hbk hc2 hc3 hx
    go_wp2_with fail
    refine start_ (n := 15) (S := fun w' => w'.cell? ⟨q, 1, none⟩ = some (.slice (some ⟨g2, 0, none⟩) n3 c2) ∧ w'.cell? ⟨q, 2, none⟩ = some (.slice (some ⟨g3, 0, none⟩) n3 c3) ∧ w'.cell? ⟨g2, i, none⟩ = some (.string (bs y)) ∧ w'.cell? ⟨g3, i, none⟩ = some (.int .i64 z) ∧ w'.frozen? ⟨g3, i, none⟩ = false) (ds := [14]) #[false, false, false, false, false, false, false, false, false, false, false, false, false, false, false] (by kernel_rfl) rfl rfl ⟨d1, d2, hy, hz, hf3⟩ (fun hHeld => ?_)
    refine pure_ (i := 0) (N := some 94) (v := ?_) (a' := ?_) #[true, false, false, false, false, false, false, false, false, false, false, false, false, false, false] rfl rfl (by kernel_rfl) (fun _ _ _ h => h) (Or.inl ⟨by rfl, ?_⟩) ?_ ?_
    rotate_left
    · intro w'
      go_simp
      with_reducible rfl
    rotate_left
    · simp only [Act.put, List.setIfInBounds_toArray, List.set_cons_zero, List.set_cons_succ, i64_w, i32_w]
      rfl
    refine pure_ (i := 1) (N := some 95) (v := ?_) (a' := ?_) #[true, true, false, false, false, false, false, false, false, false, false, false, false, false, false] rfl rfl (by kernel_rfl) (fun _ _ _ h => h) (Or.inl ⟨by rfl, ?_⟩) ?_ ?_
    rotate_left
    · intro w'
      go_simp
      with_reducible rfl
    rotate_left
    · simp only [Act.put, List.setIfInBounds_toArray, List.set_cons_zero, List.set_cons_succ, i64_w, i32_w]
      rfl
    refine pure_ (i := 2) (N := some 96) (v := ?_) (a' := ?_) #[true, true, true, false, false, false, false, false, false, false, false, false, false, false, false] rfl rfl (by kernel_rfl) (fun _ _ _ h => h) (Or.inl ⟨by rfl, ?_⟩) ?_ ?_
    rotate_left
    · intro w'
      go_simp
      with_reducible rfl
    rotate_left
    · simp only [Act.put, List.setIfInBounds_toArray, List.set_cons_zero, List.set_cons_succ, i64_w, i32_w]
      rfl
    refine pure_ (i := 4) (N := some 98) (v := ?_) (a' := ?_) #[true, true, true, false, true, false, false, false, false, false, false, false, false, false, false] rfl rfl (by kernel_rfl) (fun _ _ _ h => h) (Or.inl ⟨by rfl, ?_⟩) ?_ ?_
    rotate_left
    · intro w'
      go_simp
      with_reducible rfl
    rotate_left
    · simp only [Act.put, List.setIfInBounds_toArray, List.set_cons_zero, List.set_cons_succ, i64_w, i32_w]
      rfl
    refine pure_ (i := 5) (N := some 99) (v := ?_) (a' := ?_) #[true, true, true, false, true, true, false, false, false, false, false, false, false, false, false] rfl rfl (by kernel_rfl) (fun _ _ _ h => h) (Or.inl ⟨by rfl, ?_⟩) ?_ ?_
    rotate_left
    · intro w'
      go_simp
      with_reducible rfl
    rotate_left
    · simp only [Act.put, List.setIfInBounds_toArray, List.set_cons_zero, List.set_cons_succ, i64_w, i32_w]
      rfl
    refine pure_ (i := 6) (N := some 100) (v := ?_) (a' := ?_) #[true, true, true, false, true, true, true, false, false, false, false, false, false, false, false] rfl rfl (by kernel_rfl) (fun _ _ _ h => h) (Or.inl ⟨by rfl, ?_⟩) ?_ ?_
    rotate_left
    · intro w'
      go_simp
      with_reducible rfl
    rotate_left
    · simp only [Act.put, List.setIfInBounds_toArray, List.set_cons_zero, List.set_cons_succ, i64_w, i32_w]
      rfl
    refine pure_ (i := 7) (N := some 101) (v := ?_) (a' := ?_) #[true, true, true, false, true, true, true, true, false, false, false, false, false, false, false] rfl rfl (by kernel_rfl) (fun _ _ _ h => h) (Or.inl ⟨by rfl, ?_⟩) ?_ ?_
    rotate_left
    · intro w'
      go_simp
      with_reducible rfl
    rotate_left
    · simp only [Act.put, List.setIfInBounds_toArray, List.set_cons_zero, List.set_cons_succ, i64_w, i32_w]
      rfl
    refine pure_ (i := 9) (N := some 103) (v := ?_) (a' := ?_) #[true, true, true, false, true, true, true, true, false, true, false, false, false, false, false] rfl rfl (by kernel_rfl) (fun _ _ _ h => h) (Or.inl ⟨by rfl, ?_⟩) ?_ ?_
    rotate_left
    · intro w'
      go_simp
      with_reducible rfl
    rotate_left
    · simp only [Act.put, List.setIfInBounds_toArray, List.set_cons_zero, List.set_cons_succ, i64_w, i32_w]
      rfl
    refine take_ (i := 3) (N := some 97) (v := ?_) (a' := ?_) #[true, true, true, true, true, true, true, true, false, true, false, false, false, false, false] rfl rfl (by kernel_rfl) (fun _ _ _ h => h) (Or.inl ⟨by rfl, ?_⟩) hHeld ?_ ?_
    rotate_left
    · rintro w' ⟨s0, s1, s2, s3, s4⟩
      go_simp
      with_reducible rfl
    rotate_left
    · simp only [Act.put, List.setIfInBounds_toArray, List.set_cons_zero, List.set_cons_succ, i64_w, i32_w]
      rfl
    refine take_ (i := 8) (N := some 102) (v := ?_) (a' := ?_) #[true, true, true, true, true, true, true, true, true, true, false, false, false, false, false] rfl rfl (by kernel_rfl) (fun _ _ _ h => h) (Or.inl ⟨by rfl, ?_⟩) hHeld ?_ ?_
    rotate_left
    · rintro w' ⟨s0, s1, s2, s3, s4⟩
      go_simp
      with_reducible rfl
    rotate_left
    · simp only [Act.put, List.setIfInBounds_toArray, List.set_cons_zero, List.set_cons_succ, i64_w, i32_w]
      rfl
    refine pure_ (i := 10) (N := some 104) (v := ?_) (a' := ?_) #[true, true, true, true, true, true, true, true, true, true, true, false, false, false, false] rfl rfl (by kernel_rfl) (fun _ _ _ h => h) (Or.inl ⟨by rfl, ?_⟩) ?_ ?_
    rotate_left
    · intro w'
      go_simp
      with_reducible rfl
    rotate_left
    · simp only [Act.put, List.setIfInBounds_toArray, List.set_cons_zero, List.set_cons_succ, i64_w, i32_w]
      rfl
    refine take_ (i := 11) (N := some 105) (v := ?_) (a' := ?_) #[true, true, true, true, true, true, true, true, true, true, true, true, false, false, false] rfl rfl (by kernel_rfl) (fun _ _ _ h => h) (Or.inl ⟨by rfl, ?_⟩) hHeld ?_ ?_
    rotate_left
    · rintro w' ⟨s0, s1, s2, s3, s4⟩
      go_simp
      with_reducible rfl
    rotate_left
    · simp only [Act.put, List.setIfInBounds_toArray, List.set_cons_zero, List.set_cons_succ, i64_w, i32_w]
      rfl
    refine pure_ (i := 12) (N := some 106) (v := ?_) (a' := ?_) #[true, true, true, true, true, true, true, true, true, true, true, true, true, false, false] rfl rfl (by kernel_rfl) (fun _ _ _ h => h) (Or.inl ⟨by rfl, ?_⟩) ?_ ?_
    rotate_left
    · intro w'
      go_simp
      with_reducible rfl
    rotate_left
    · simp only [Act.put, List.setIfInBounds_toArray, List.set_cons_zero, List.set_cons_succ, i64_w, i32_w]
      rfl
    refine pure_ (i := 13) (N := some 107) (v := ?_) (a' := ?_) #[true, true, true, true, true, true, true, true, true, true, true, true, true, true, false] rfl rfl (by kernel_rfl) (fun _ _ _ h => h) (Or.inl ⟨by rfl, ?_⟩) ?_ ?_
    rotate_left
    · intro w'
      go_simp
      with_reducible rfl
    rotate_left
    · simp only [Act.put, List.setIfInBounds_toArray, List.set_cons_zero, List.set_cons_succ, i64_w, i32_w]
      rfl
    refine last_ (i := 14) (N := none) #[true, true, true, true, true, true, true, true, true, true, true, true, true, true, true] rfl rfl (by kernel_rfl) (by decide) (fun K hK => ?_)
    refine skip_ (w1 := ?_) (by rfl) rfl ?_ ?_
    rotate_left
    · go_simp
      rfl
    refine hK.out _ _ ?_
    clear hK K
    refine done_ (by kernel_rfl) ?_
    clear hHeld d1 d2 hy hz hf3
    rw [bs_size]
    have HD6 := Aside0.mk (HD5.out.book ⟨_, _, _, _, _, _, _, _, _, (HSet.out.1.below (drew_below _)).mono (fun _ hk => .inl hk)⟩ HSet.out.2.drew)
    clear HSet HD5
    generalize (w5.setCell ⟨g3, i, none⟩ (.int .i64 (y.length : Int))).drew = w6 at *
    go_wp2_with fail
    go_ret
    rw [HE.out]
    exact ⟨rfl, _, _, HD6.out⟩
  · have HE := Aside0.mk (show noteSync d b s = (d5, b, !(r5 == 0)) by
      unfold noteSync; rw [HRs.out, ← HIx.out, if_neg hx, decide_eq_false hx, beqF])
    have hx1 : decide (0 ≤ ix) = false := decide_eq_false hx
    go_wp2_with fail
    go_ret
    rw [HE.out]
    exact ⟨rfl, _, _, HD5.out⟩
end Go.Proofs.Ytabomfmjepmkjaa.Dk
end

section
namespace Go.Proofs.Ytabomfmjepmkjaa.Dk
set_option linter.unusedVariables false
set_option linter.unusedSimpArgs false
open Go.RowKit Go.Proofs.YtabomfmjepmkjaaW.PrintWords Go.Proofs.YtabomfmjepmkjaaW.PrintLast Go.Proofs.YtabomfmjepmkjaaW.PrintMore Go.Proofs.Ytabomfmjepmkjaa.Lib Go.Proofs.Ytabomfmjepmkjaa.Mem Go.Proofs.Ytabomfmjepmkjaa.Txt
open Go.MapKept Go.ChangeMaps
set_option maxRecDepth 100000 in
set_option maxHeartbeats 3200000 in
theorem note_remove (w : World) (Od Ob : Nat → Prop) (p q : Nat) (d : DS) (b : BS) (kind a N : Int) (sA sB : ByteArray) (B : Option Addr) (mB cB n : Nat) (xs : List Int) (hd : DkAt w Od p d) (hb : BkAt w Ob q b) (hap : ∀ k, Od k → ¬ Ob k)
    (hl1 : b.names.length = n) (hl2 : b.bytes.length = n) (hl3 : b.syn.length = n) (hn : n < 1000000) (hA : sA.size < 4611686018427387904) (hB : sB.size < 4611686018427387904) (hC : ∀ w', Only (fun k => Od k ∨ Ob k) w w' → Kd.C (Kd.int .u8) w' B mB xs) (ha : P.gristmilllaw12_abs.f kind = some a) (hk : Int.tmod a 6 = 4) (ho : ops62 d) :
    Calls Try.prog 20 #[.pointer (some ⟨q, 0, none⟩), .pointer (some ⟨p, 0, none⟩), .agg #[.int .i64 kind, .string sA, .string sB, .slice B mB cB, .int .i64 N]] w fun e w' => e = .returned (.bool (noteRemove d b (nameT sA.size)).2.2) ∧ Noted w w' Od Ob p q (noteRemove d b (nameT sA.size)).1 (noteRemove d b (nameT sA.size)).2.1 := by
  have HD0 := Aside0.mk (DB.start hd hb hap)
  have HL := Aside0.mk (And.intro hl1 (And.intro hl2 hl3))
  have HN := Aside0.mk hn
  have HAb := Aside0.mk ha
  have HOp := Aside0.mk ho
  have HC := Aside0.mk hC
  have HB := Aside0.mk hB
  have HName := Aside0.mk (name_f sA.size (by omega))
  have HSh := Aside0.mk (show Shorts [nameT sA.size] from fun t ht => by rw [List.mem_singleton.1 ht]; have := nameT_len sA.size; omega)
  have HNd := Aside0.mk (nameT_named sA.size)
  generalize nameT sA.size = s at *
  clear hd hb hap hl1 hl2 hl3 ha ho hC hB hA hn
  go_enter Try.func20, Try.ntmps20
  go_wp2_with (first
    | (((with_reducible refine gate_dst (N := 5) rfl ?_); refine box_event ?hg (N := 5) ?hd (cs := #[.int .i64 kind, .string sA, .string sB, .slice B mB cB, .int .i64 N]) (t := 44) ?hr ?_; (case hd => rfl); (case hg => rfl); (case hr => first | (go_simp; done) | (go_simp; rfl)); intro g1 hg w1 hbox hb; have GE1 := Aside0.mk (Nat.le_of_eq hg.symm); have BK1 := Aside0.mk hbox; have HX1 := Aside0.mk hb; clear hg hbox hb); (have hg1_0 : w1.cell? ⟨g1, 0, none⟩ = some (.int .i64 kind) := (blk_cell BK1.out 0).trans rfl; have hfg1_0 := blk_frozen BK1.out 0; have hg1_1 : w1.cell? ⟨g1, 1, none⟩ = some (.string sA) := (blk_cell BK1.out 1).trans rfl; have hfg1_1 := blk_frozen BK1.out 1; have hg1_2 : w1.cell? ⟨g1, 2, none⟩ = some (.string sB) := (blk_cell BK1.out 2).trans rfl; have hfg1_2 := blk_frozen BK1.out 2; have hg1_3 : w1.cell? ⟨g1, 3, none⟩ = some (.slice B mB cB) := (blk_cell BK1.out 3).trans rfl; have hfg1_3 := blk_frozen BK1.out 3; have hg1_4 : w1.cell? ⟨g1, 4, none⟩ = some (.int .i64 N) := (blk_cell BK1.out 4).trans rfl; have hfg1_4 := blk_frozen BK1.out 4))
    | fail)
  refine (P.gristmilllaw12_name.calls (sA.size : Int) (bs s) w1 HName.out).mono ?_
  rintro e w2 ⟨rfl, hb2⟩
  have BK2 := Aside0.mk (blk_below BK1.out hb2)
  have HD2 := Aside0.mk ((HD0.out.below HX1.out).below hb2)
  clear hg1_0 hfg1_0 hg1_1 hfg1_1 hg1_2 hfg1_2 hg1_3 hfg1_3 hg1_4 hfg1_4
  clear hb2 HD0 HX1
  go_wp2_with fail
  refine (at_calls w2 _ q b s HD2.out.bk (by rw [HL.out.1]; exact HN.out)).mono ?_
  rintro e w3 ⟨rfl, hb3⟩
  have BK3 := Aside0.mk (blk_below BK2.out hb3)
  have HD3 := Aside0.mk (HD2.out.below hb3)
  clear hb3 HD2
  (have hg1_0 : w3.cell? ⟨g1, 0, none⟩ = some (.int .i64 kind) := (blk_cell BK3.out 0).trans rfl; have hfg1_0 := blk_frozen BK3.out 0; have hg1_1 : w3.cell? ⟨g1, 1, none⟩ = some (.string sA) := (blk_cell BK3.out 1).trans rfl; have hfg1_1 := blk_frozen BK3.out 1; have hg1_2 : w3.cell? ⟨g1, 2, none⟩ = some (.string sB) := (blk_cell BK3.out 2).trans rfl; have hfg1_2 := blk_frozen BK3.out 2; have hg1_3 : w3.cell? ⟨g1, 3, none⟩ = some (.slice B mB cB) := (blk_cell BK3.out 3).trans rfl; have hfg1_3 := blk_frozen BK3.out 3; have hg1_4 : w3.cell? ⟨g1, 4, none⟩ = some (.int .i64 N) := (blk_cell BK3.out 4).trans rfl; have hfg1_4 := blk_frozen BK3.out 4)
  go_wp2_with fail
  refine (P.gristmilllaw12_abs.calls kind a w3 HAb.out).mono ?_
  rintro e w4 ⟨rfl, hdr⟩
  have BK4 := Aside0.mk (blk_below BK3.out hdr.below)
  have HD4 := Aside0.mk (HD3.out.below hdr.below)
  clear hg1_0 hfg1_0 hg1_1 hfg1_1 hg1_2 hfg1_2 hg1_3 hfg1_3 hg1_4 hfg1_4
  clear hdr HD3
  obtain ⟨ix, hix⟩ : ∃ ix, ix = idxT b.names s := ⟨_, rfl⟩
  have HIx := Aside0.mk hix
  rw [← hix]
  clear hix
  go_wp2_with fail
  refine (remove_calls w4 _ p d s HD4.out.dk HSh.out HOp.out).mono ?_
  rintro e w5 ⟨rfl, hd5, ho5⟩
  have HD5 := Aside0.mk (HD4.out.disk' hd5 ho5)
  clear hd5 ho5 HD4
  obtain ⟨⟨d5, r5⟩, hrs⟩ : ∃ rs, rs = removeS d s := ⟨_, rfl⟩
  rw [← hrs] at HD5 ⊢
  have HRs := Aside0.mk hrs.symm
  clear hrs
  simp only at HD5 ⊢
  by_cases hx : 0 ≤ ix
  · have HE := Aside0.mk (show noteRemove d b s = (d5, b.out ix.toNat, r5 == 0) by
      unfold noteRemove; rw [HRs.out, ← HIx.out, if_pos hx, decide_eq_true hx, beqT])
    obtain ⟨i, hi, hil, -⟩ := idxT_nat (names := b.names) (s := s) (by rw [← HIx.out]; exact hx)
    obtain rfl : ix = (i : Int) := HIx.out.trans hi
    clear hi
    rw [HL.out.1] at hil
    rw [Int.toNat_natCast] at HE
    obtain ⟨A1, A2, A3, n1, n2, n3, c1, c2, c3, hbk⟩ := HD5.out.bk
    obtain rfl : n1 = n := hbk.r1.len.symm.trans HL.out.1
    obtain rfl : n2 = n1 := hbk.r2.len.symm.trans HL.out.2.1
    obtain rfl : n3 = n2 := hbk.r3.len.symm.trans HL.out.2.2
    have HBk := Aside0.mk hbk
    clear hbk hx
    go_wp2_with fail
    refine (out_calls w5 _ q b A1 A2 A3 n3 c1 c2 c3 i HBk.out hil HN.out).mono ?_
    rintro e w6 ⟨rfl, hb6, ho6⟩
    have HD6 := Aside0.mk (HD5.out.book hb6 ho6)
    clear hb6 ho6 HBk HD5
    go_wp2_with fail
    go_ret
    rw [HE.out]
    exact ⟨rfl, _, _, HD6.out⟩
  · have HE := Aside0.mk (show noteRemove d b s = (d5, b, !(r5 == 0)) by
      unfold noteRemove; rw [HRs.out, ← HIx.out, if_neg hx, decide_eq_false hx, beqF])
    have hx1 : decide (0 ≤ ix) = false := decide_eq_false hx
    go_wp2_with fail
    go_ret
    rw [HE.out]
    exact ⟨rfl, _, _, HD5.out⟩
end Go.Proofs.Ytabomfmjepmkjaa.Dk
end
