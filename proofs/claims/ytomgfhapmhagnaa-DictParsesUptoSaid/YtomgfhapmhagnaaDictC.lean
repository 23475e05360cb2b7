/- Dictionaries: Bytes: what they answer. -/
import Derived.Test.YtomgfhapmhagnaaDictB
namespace Go.Proofs.Ytomgfhapmhagnaa.Txt
set_option linter.unusedVariables false
set_option linter.unusedSimpArgs false
open Go.RowKit Go.Proofs.YtomgfhapmhagnaaW.PrintWords Go.Proofs.YtomgfhapmhagnaaW.PrintLast Go.Proofs.YtomgfhapmhagnaaW.PrintMore Go.Proofs.Ytomgfhapmhagnaa.Lib Go.Proofs.Ytomgfhapmhagnaa.Bas

set_option maxRecDepth 100000 in
set_option maxHeartbeats 400000 in
theorem bytes_none (w : World) :
    Calls Try.prog 18 #[.pointer none] w fun e w' => e = .returned (.slice none 0 0) ∧ w = w' := by
  go_enter Try.func18, Try.ntmps18
  go_wp2_with fail
  go_ret
  exact ⟨rfl, rfl⟩

def lastT (l : List T) (k : Nat) : T := ((l.take k).getLast?).getD []
theorem lastT_succ (l : List T) (k : Nat) (h : k < l.length) : lastT l (k + 1) = l.getD k [] := by
  unfold lastT
  rw [List.take_succ_eq_append_getElem h, List.getLast?_append, List.getD_eq_getElem?_getD, List.getElem?_eq_getElem h]
  simp
theorem lastT_le (l : List T) (k : Nat) (h : ∀ t ∈ l, t.length ≤ 64) : (lastT l k).length ≤ 64 := by
  unfold lastT
  cases e : (l.take k).getLast? with
  | none => simp
  | some t => exact h t (List.mem_of_mem_take (List.mem_of_getLast? e))
theorem encAll_take (l : List T) (k : Nat) (h : k < l.length) : encAll [] (l.take (k + 1)) = encAll [] (l.take k) ++ encOne (lastT l k) (l.getD k []) := by
  rw [List.take_succ_eq_append_getElem h, encAll_snoc, List.getD_eq_getElem?_getD, List.getElem?_eq_getElem h]
  rfl
theorem bytesOf_bs (t : T) : bytesOf (bs t) = numsT t := by
  unfold bytesOf numsT
  rw [bs_data]
theorem sub_text (t : T) (n : Nat) (h : n ≤ t.length) : ((bs t).extract n (bs t).size).data.toList = t.drop n := by
  rw [ByteArray.data_extract, Array.toList_extract, bs_data, bs_size, List.extract_eq_take_drop, List.take_of_length_le (by rw [List.length_drop]; omega)]

set_option maxRecDepth 100000 in
set_option maxHeartbeats 1600000 in
theorem bytes_calls (w : World) (g : Nat) (l : List T) (hs : DictAt w g l) (hl : l.length ≤ 4096) (ht : ∀ t ∈ l, t.length ≤ 64) :
    Calls Try.prog 18 #[.pointer (some ⟨g, 0, none⟩)] w fun e w' => ∃ v, e = .returned v ∧ Kd.R (Kd.int .u8) 5 w' w.heap.size (fun _ => True) v (dictBytes l) ∧ Below w.heap.size w w' := by
  obtain ⟨A, c, c0, hC, hc⟩ := hs
  have HC := Aside0.mk hC
  obtain ⟨m, hm⟩ : ∃ m, l.length = m := ⟨_, rfl⟩
  have HT := Aside0.mk ht
  have HM := Aside0.mk hm
  rw [hm] at c0 hl HC
  have hmw : IntKind.u64.wrap (m : Int) = (m : Int) := by rw [IntKind.wrap_u64]; omega
  clear hC hc hm ht
  go_enter Try.func18, Try.ntmps18
  go_wp2_with fail
  refine (uint_calls [] 0 none 0 m w (Kd.C_nil _ _) (by omega) (by omega) (by simp)).mono ?_
  rintro e w1 ⟨v1, rfl, ho, hb⟩
  rw [List.nil_append, Int.toNat_natCast] at ho
  have HO1 := Aside0.mk ho
  have HB1 := Aside0.mk hb
  have HC1 := Aside0.mk (Kd.C_below HC.out hb)
  have c01 := pw_cell_below hb c0
  clear ho hb c0
  go_wp2_with fail
  go_loopw [3, 4, 22] (fun ov sv kv w' => ∃ k : Nat, k ≤ m ∧ kv = .int .i64 k ∧ sv = .string (bs (lastT l k)) ∧ Aside0 (Kd.R (Kd.int .u8) 5 w' w.heap.size (fun _ => True) ov (varint m ++ encAll [] (l.take k))) ∧ Aside0 (Below w.heap.size w w')) (fun _ _ kv _ => m - (intOf kv).toNat)
  case atStart => exact ⟨0, Nat.zero_le _, rfl, rfl, ⟨by rw [List.take_zero]; simpa [encAll] using HO1.out⟩, HB1⟩
  case round =>
    obtain ⟨k, hk, rfl, rfl, HO, HB⟩ := hrel
    by_cases hlt : k < m
    · have HK := Aside0.mk (show k < l.length by have := HM.out; omega)
      have HCk := Aside0.mk (Kd.C_below HC.out HB.out)
      obtain ⟨ad, e, hcell⟩ := at_text HCk.out k hlt
      subst e
      have hki : (k : Int) < (m : Int) := by omega
      have htl := HT.out (l.getD k []) (by rw [List.getD_eq_getElem?_getD, List.getElem?_eq_getElem HK.out]; exact List.getElem_mem _)
      have hll := lastT_le l k HT.out
      have hsh := sharedOf_le (lastT l k) (l.getD k [])
      have HSh := Aside0.mk (fun w => shared_calls (bs (lastT l k)) (bs (l.getD k [])) w (by rw [bs_size]; omega) (by rw [bs_size]; omega))
      rw [bs_data, bs_data] at HSh
      have HE := Aside0.mk (encAll_take l k HK.out)
      have HLS := Aside0.mk (lastT_succ l k HK.out)
      have HSub := Aside0.mk (sub_text (l.getD k []) (sharedOf (lastT l k) (l.getD k [])) hsh.2)
      have hsz := bs_size (l.getD k [])
      have HEl := Aside0.mk (encAll_le [] (l.take k) (fun t h => HT.out t (List.mem_of_mem_take h)))
      unfold encOne at HE
      generalize sharedOf (lastT l k) (l.getD k []) = n at *
      generalize l.getD k [] = t at *
      generalize lastT l k = was at *
      generalize hbt : bs t = s at *
      obtain ⟨A2, c2, rfl, hc2, hC2⟩ := Kd.R_reads HO.out
      have HC2 := Aside0.mk hC2
      have hv := varint_le10 (show m < 18446744073709551616 by omega)
      have hxl : (varint m ++ encAll [] (List.take k l)).length ≤ 10 + 84 * 4096 := by
        have := HEl.out; rw [List.length_append]; have := List.length_take_le k l; omega
      clear HEl hv HC1 hc2 hC2
      generalize hxs : varint m ++ encAll [] (List.take k l) = xs at *
      have HX := Aside0.mk hxs
      clear hxs
      have hnw : IntKind.u64.wrap (n : Int) = (n : Int) := by rw [IntKind.wrap_u64]; omega
      have hnn : n ≤ s.size := by omega
      have HSz := Aside0.mk hsz
      have htl2 : s.size ≤ 64 := by omega
      clear hsz
      go_wp2_with fail
      refine (HSh.out _).mono ?_
      rintro e w2 ⟨rfl, hd⟩
      have HB2 := Aside0.mk (below_then HB.out HB.out.size hd.below)
      have HC3 := Aside0.mk (Kd.C_below HC2.out hd.below)
      clear hd HC2
      go_wp2_with fail
      refine start_ (n := 9) (S := fun w' => True) (ds := []) #[false, false, false, false, false, false, false, false, false] (by kernel_rfl) rfl rfl trivial (fun hHeld => ?_)
      refine pure_ (i := 0) (N := some 29) (v := ?_) (a' := ?_) #[true, false, false, false, false, false, false, false, false] rfl rfl (by kernel_rfl) (fun _ _ _ h => h) (Or.inl ⟨by rfl, ?_⟩) ?_ ?_
      rotate_left
      · intro w'
        go_simp
        with_reducible rfl
      rotate_left
      · simp only [Act.put, List.setIfInBounds_toArray, List.set_cons_zero, List.set_cons_succ, i64_w, i32_w]
        rfl
      refine pure_ (i := 1) (N := some 30) (v := ?_) (a' := ?_) #[true, true, false, false, false, false, false, false, false] rfl rfl (by kernel_rfl) (fun _ _ _ h => h) (Or.inl ⟨by rfl, ?_⟩) ?_ ?_
      rotate_left
      · intro w'
        go_simp
        with_reducible rfl
      rotate_left
      · simp only [Act.put, List.setIfInBounds_toArray, List.set_cons_zero, List.set_cons_succ, i64_w, i32_w]
        rfl
      refine pure_ (i := 2) (N := some 31) (v := ?_) (a' := ?_) #[true, true, true, false, false, false, false, false, false] rfl rfl (by kernel_rfl) (fun _ _ _ h => h) (Or.inl ⟨by rfl, ?_⟩) ?_ ?_
      rotate_left
      · intro w'
        go_simp
        with_reducible rfl
      rotate_left
      · simp only [Act.put, List.setIfInBounds_toArray, List.set_cons_zero, List.set_cons_succ, i64_w, i32_w]
        rfl
      refine pure_ (i := 4) (N := some 33) (v := ?_) (a' := ?_) #[true, true, true, false, true, false, false, false, false] rfl rfl (by kernel_rfl) (fun _ _ _ h => h) (Or.inl ⟨by rfl, ?_⟩) ?_ ?_
      rotate_left
      · intro w'
        go_simp
        with_reducible rfl
      rotate_left
      · simp only [Act.put, List.setIfInBounds_toArray, List.set_cons_zero, List.set_cons_succ, i64_w, i32_w]
        rfl
      refine pure_ (i := 5) (N := some 34) (v := ?_) (a' := ?_) #[true, true, true, false, true, true, false, false, false] rfl rfl (by kernel_rfl) (fun _ _ _ h => h) (Or.inl ⟨by rfl, ?_⟩) ?_ ?_
      rotate_left
      · intro w'
        go_simp
        with_reducible rfl
      rotate_left
      · simp only [Act.put, List.setIfInBounds_toArray, List.set_cons_zero, List.set_cons_succ, i64_w, i32_w]
        rfl
      refine pure_ (i := 6) (N := some 35) (v := ?_) (a' := ?_) #[true, true, true, false, true, true, true, false, false] rfl rfl (by kernel_rfl) (fun _ _ _ h => h) (Or.inl ⟨by rfl, ?_⟩) ?_ ?_
      rotate_left
      · intro w'
        go_simp
        with_reducible rfl
      rotate_left
      · simp only [Act.put, List.setIfInBounds_toArray, List.set_cons_zero, List.set_cons_succ, i64_w, i32_w]
        rfl
      refine one_ (i := 3) (N := some 32) #[true, true, true, true, true, true, true, false, false] rfl rfl (by kernel_rfl) (by decide) (fun K hK => ?_)
      refine goes_ Try.func34 (by kernel_rfl) rfl #[.slice A2 xs.length c2, .int .u64 n] (by rfl) rfl rfl (by simp only [List.map_toArray, List.map_cons, List.map_nil]; rfl) ?_
      with_reducible refine (uint_calls xs xs.length A2 c2 n _ (Kd.C_drew HC3.out) (by omega) (by omega) (by omega)).mono ?_
      rintro e w3 ⟨v3, rfl, ho, hb⟩
      refine ⟨_, rfl, ?_⟩
      have ho2 := Kd.R_lower ho HB2.out.size
      rw [Int.toNat_natCast] at ho2
      obtain ⟨A3, c3, rfl, hc3, hC3⟩ := Kd.R_reads ho2
      have HB3 := Aside0.mk (below_then (below_drew HB2.out) HB2.out.size hb)
      have HC4 := Aside0.mk hC3
      clear ho ho2 hb hc3 hC3
      refine hK.out _ _ trivial (fun hHeld => ?_)
      clear hK K
      refine norm_ (a' := ?_) ?_ ?_
      rotate_left
      · show Act.put _ (some 32) _ = _
        simp only [Act.put, List.setIfInBounds_toArray, List.set_cons_zero, List.set_cons_succ, i64_w, i32_w]
        rfl
      refine one_ (i := 7) (N := some 36) #[true, true, true, true, true, true, true, true, false] rfl rfl (by kernel_rfl) (by decide) (fun K hK => ?_)
      refine goes_ Try.func36 (by kernel_rfl) rfl #[.slice A3 (xs ++ varint n).length c3, .string (s.extract n s.size)] (by rfl) rfl rfl (by simp only [List.map_toArray, List.map_cons, List.map_nil]; rfl) ?_
      with_reducible refine (Bas.text_calls (xs ++ varint n) _ A3 c3 (s.extract n s.size) _ HC4.out (by have := varint_le10 (show n < 18446744073709551616 by omega); rw [List.length_append, ByteArray.size_extract]; omega)).mono ?_
      rintro e w4 ⟨v4, rfl, ho, hb⟩
      refine ⟨_, rfl, ?_⟩
      have HO4 := Aside0.mk (Kd.R_lower ho HB3.out.size)
      have HB4 := Aside0.mk (below_then HB3.out HB3.out.size hb)
      clear ho hb
      refine hK.out _ _ trivial (fun hHeld => ?_)
      clear hK K
      refine norm_ (a' := ?_) ?_ ?_
      rotate_left
      · show Act.put _ (some 36) _ = _
        simp only [Act.put, List.setIfInBounds_toArray, List.set_cons_zero, List.set_cons_succ, i64_w, i32_w]
        rfl
      refine pure_ (i := 8) (N := some 3) (v := ?_) (a' := ?_) #[true, true, true, true, true, true, true, true, true] rfl rfl (by kernel_rfl) (fun _ _ _ h => h) (Or.inl ⟨by rfl, ?_⟩) ?_ ?_
      rotate_left
      · intro w'
        go_simp
        with_reducible rfl
      rotate_left
      · simp only [Act.put, List.setIfInBounds_toArray, List.set_cons_zero, List.set_cons_succ, i64_w, i32_w]
        rfl
      refine done_ (by kernel_rfl) ?_
      go_wp2_with fail
      go_roundw
      case rel =>
        refine ⟨k + 1, by omega, by go_num, by rw [HLS.out]; rw [hbt], ⟨?_⟩, HB4⟩
        have e : varint m ++ encAll [] (List.take (k + 1) l) = xs ++ varint n ++ varint (s.extract n s.size).size ++ bytesOf (s.extract n s.size) := by
          rw [HE.out, ← HX.out]
          unfold bytesOf
          rw [HSub.out, ByteArray.size_extract]
          unfold numsT
          simp only [List.append_assoc]
          congr 4
          congr 2
          have := HSz.out; omega
        rw [e]; exact HO4.out
      case measure => simp [intOf]; omega
    · obtain rfl : k = m := by omega
      have HF := Aside0.mk (show varint k ++ encAll [] (l.take k) = dictBytes l by unfold dictBytes; rw [← HM.out, List.take_length])
      rw [HF.out] at HO
      go_wp2_with fail
      go_ret
      exact ⟨_, rfl, HO.out, HB.out⟩
end Go.Proofs.Ytomgfhapmhagnaa.Txt
