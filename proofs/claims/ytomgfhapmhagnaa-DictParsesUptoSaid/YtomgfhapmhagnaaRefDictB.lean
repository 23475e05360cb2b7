/- The reference's Bytes: what it answers. -/
import Derived.Test.YtomgfhapmhagnaaRefDict
import Derived.Test.YtomgfhapmhagnaaRefU
import Derived.Test.YtomgfhapmhagnaaDictC
namespace Go.Proofs.Ytomgfhapmhagnaa.Txt
set_option linter.unusedVariables false
set_option linter.unusedSimpArgs false
open Go.RowKit Go.Proofs.YtomgfhapmhagnaaW.PrintWords Go.Proofs.YtomgfhapmhagnaaW.PrintLast Go.Proofs.YtomgfhapmhagnaaW.PrintMore Go.Proofs.Ytomgfhapmhagnaa.Lib Go.Proofs.Ytomgfhapmhagnaa.Bas

theorem lastT_pred (l : List T) (k : Nat) (h : k < l.length) : lastT l (k + 1) = l.getD k [] := lastT_succ l k h
theorem byte_bs (t : T) (i : Nat) (h : i < (bs t).size) : (bs t)[i] = t.getD i 0 := byte_getD (bs t) i h

set_option maxRecDepth 100000 in
set_option maxHeartbeats 3200000 in
theorem refbytes_calls (l : List T) (A : Option Addr) (m c : Nat) (w : World) (hC : text.C w A m l) (hl : m ≤ 4096) (ht : ∀ t ∈ l, t.length ≤ 64) :
    Calls Try.prog 28 #[.slice A m c] w fun e w' => ∃ v, e = .returned v ∧ Kd.R (Kd.int .u8) 5 w' w.heap.size (fun _ => True) v (dictBytes l) ∧ Below w.heap.size w w' := by
  have HC := Aside0.mk hC
  have HT := Aside0.mk ht
  have HM := Aside0.mk (show l.length = m from hC.1)
  have hmw : IntKind.u64.wrap (m : Int) = (m : Int) := by rw [IntKind.wrap_u64]; omega
  clear hC ht
  go_enter Try.func28, Try.ntmps28
  go_wp2_with fail
  refine (refuint_calls m w (by omega) (by omega)).mono ?_
  rintro e w1 ⟨v1, rfl, ho, hb⟩
  rw [Int.toNat_natCast] at ho
  have HO1 := Aside0.mk ho
  have HB1 := Aside0.mk hb
  clear ho hb
  go_wp2_with fail
  go_loopw [3, 4] (fun ov kv w' => ∃ k : Nat, k ≤ m ∧ kv = .int .i64 k ∧ Aside0 (Kd.R (Kd.int .u8) 5 w' w.heap.size (fun _ => True) ov (varint m ++ encAll [] (l.take k))) ∧ Aside0 (Below w.heap.size w w')) (fun _ kv _ => m - (intOf kv).toNat)
  case atStart => exact ⟨0, Nat.zero_le _, rfl, ⟨by rw [List.take_zero]; simpa [encAll] using HO1.out⟩, HB1⟩
  case round =>
    clear HO1 HB1
    obtain ⟨k, hk, rfl, HO, HB⟩ := hrel
    by_cases hlt : k < m
    · have HK := Aside0.mk (show k < l.length by have := HM.out; omega)
      obtain ⟨ad, e, -⟩ := at_text (Kd.C_below HC.out HB.out) k hlt
      subst e
      have HCell := Aside0.mk (show ∀ w', Below w.heap.size w w' → w'.cell? (ad.add k) = some (.string (bs (l.getD k []))) by
        intro w' h
        obtain ⟨ad1, e1, hc1⟩ := at_text (Kd.C_below HC.out h) k hlt
        cases e1
        exact hc1)
      have hki : (k : Int) < (m : Int) := by omega
      have htl := HT.out (l.getD k []) (by rw [List.getD_eq_getElem?_getD, List.getElem?_eq_getElem HK.out]; exact List.getElem_mem _)
      have hll := lastT_le l k HT.out
      have hsh := sharedOf_le (lastT l k) (l.getD k [])
      have HI := Aside0.mk (shared_is (lastT l k) (l.getD k []))
      have HE := Aside0.mk (encAll_take l k HK.out)
      have HSub := Aside0.mk (sub_text (l.getD k []) (sharedOf (lastT l k) (l.getD k [])) hsh.2)
      have hsz := bs_size (l.getD k [])
      have hsz2 := bs_size (lastT l k)
      have HEl := Aside0.mk (encAll_le [] (l.take k) (fun t h => HT.out t (List.mem_of_mem_take h)))
      have hv := varint_le10 (show m < 18446744073709551616 by omega)
      have hxl : (varint m ++ encAll [] (List.take k l)).length ≤ 10 + 84 * 4096 := by
        have := HEl.out; rw [List.length_append]; have := List.length_take_le k l; omega
      clear HEl hv
      unfold encOne at HE
      have HBt := Aside0.mk (byte_bs (l.getD k []))
      have HBw := Aside0.mk (byte_bs (lastT l k))
      have hprev : k = 0 ∨ ∃ k1, k = k1 + 1 ∧ ∀ w', Below w.heap.size w w' → w'.cell? (ad.add k1) = some (.string (bs (lastT l k))) := by
        rcases Nat.eq_zero_or_pos k with h | h
        · exact .inl h
        · obtain ⟨k1, rfl⟩ : ∃ k1, k = k1 + 1 := ⟨k - 1, by omega⟩
          refine .inr ⟨k1, rfl, fun w' h => ?_⟩
          obtain ⟨ad1, e1, hc1⟩ := at_text (Kd.C_below HC.out h) k1 (by omega)
          cases e1
          rw [lastT_succ l k1 (by have := HM.out; omega)]
          exact hc1
      have hw0 : k = 0 → lastT l k = [] := fun h => by rw [h]; rfl
      generalize hwas : lastT l k = was at *
      generalize htt : l.getD k [] = t at *
      generalize hsn : sharedOf was t = n at *
      generalize hxs : varint m ++ encAll [] (List.take k l) = xs at *
      have HX := Aside0.mk hxs
      have HSn := Aside0.mk hsn
      clear hwas htt hsn hxs
      generalize bs t = s at *
      generalize bs was = sw at *
      have HSz := Aside0.mk hsz
      have HSz2 := Aside0.mk hsz2
      have htl2 : s.size ≤ 64 := by omega
      have hll2 : sw.size ≤ 64 := by omega
      obtain ⟨wo, hwo⟩ : ∃ wo, wo = wr := ⟨_, rfl⟩
      subst hwo
      clear hsz hsz2 htl hll hlt
      obtain ⟨A2, c2, rfl, -, -⟩ := Kd.R_reads HO.out
      go_wp2_with fail
      go_loopw [5] (fun nv w' => ∃ j : Nat, j ≤ was.length ∧ j ≤ t.length ∧ nv = .int .i64 j ∧ Aside0 (∀ i, i < j → was.getD i 0 = t.getD i 0) ∧ Aside0 (Drawn0 wo w')) (fun nv _ => t.length - (intOf nv).toNat)
      case atStart => exact ⟨0, Nat.zero_le _, Nat.zero_le _, rfl, ⟨fun i hi => by omega⟩, ⟨Drawn0.refl _⟩⟩
      case round =>
        obtain ⟨j, hj1, hj2, rfl, HP, HD⟩ := hrel
        have HBv := Aside0.mk (below_then HB.out HB.out.size HD.out.below)
        have hc1 := HCell.out _ HBv.out
        rcases hprev with hk0 | ⟨k1, hk1, hcw⟩
        · have hj0 : j = 0 := by have := hw0 hk0; rw [this] at hj1; simpa using hj1
          have hn0 : n = 0 := by have := hw0 hk0; rw [this] at hsh; simpa using hsh.1
          have hk2 : decide (0 < k) = false := decide_eq_false (by omega)
          have hjn : j = n := by omega
          subst hjn
          clear hj0 hn0 hk0 hw0
          have hjs : j ≤ s.size := by have := HSz.out; omega
          have hjw : IntKind.u64.wrap (j : Int) = (j : Int) := by rw [IntKind.wrap_u64]; omega
          have HO2 := Aside0.mk (Kd.R_below HO.out HD.out.below)
          clear HI HD HP hsh
          go_wp2_with fail
          go_quiet (fail)
          go_wp2_with fail
          refine (refuint_calls j _ (by omega) (by omega)).mono ?_
          rintro e w5 ⟨v5, rfl, ho, hb⟩
          rw [Int.toNat_natCast] at ho
          obtain ⟨A5, c5, rfl, hc5, hC5⟩ := Kd.R_reads ho
          have HBd := Aside0.mk (pw_below_drewN HBv.out nq)
          have HOd := Aside0.mk (Kd.R_below HO2.out (pw_below_drewN (Below.refl _ _) nq))
          have HB5 := Aside0.mk (below_then HBd.out HBd.out.size hb)
          have HO5 := Aside0.mk (Kd.R_below HOd.out hb)
          have HC5 := Aside0.mk hC5
          have hvj := varint_le10 (show j < 18446744073709551616 by omega)
          clear ho hb hc5 hC5 HBd HOd HO2 hc1
          go_wp2_with (first
            | (((with_reducible refine gate_builtin (b := .append) (xs := #[.tmp 55, .tmp 58]) rfl ?_); at_builtin; refine Kd.R_append_rows (Kd.int .u8) (w0 := w) w.heap.size rfl (.tmp 55) (.tmp 58) 43 5 (.int .u8 0) 1 rfl Try.underlying43 info5 rfl (by decide) (by omega) (.slice A2 xs.length c2) (xs) (varint j) (A5) (varint j).length (c5) (fun _ => True) (fun _ => False) rfl rfl HO5.out HC5.out (fun _ _ h => h) (fun _ h => h.elim) (fun _ _ => trivial) HB5.out HB5.out.size (by omega) ?_; intro v6 w6 ho6 hb6 hg6 ha6; have HO6 := Aside0.mk ho6; have HB6 := Aside0.mk hb6; clear ho6 hb6 hg6 ha6); have hc6 := HCell.out _ HB6.out)
            | fail)
          refine (reftext_calls (s.extract j s.size) _ (by rw [ByteArray.size_extract]; omega)).mono ?_
          rintro e w7 ⟨v7, rfl, ho, hb⟩
          obtain ⟨A7, c7, rfl, hc7, hC7⟩ := Kd.R_reads ho
          have HB7 := Aside0.mk (below_then HB6.out HB6.out.size hb)
          have HO7 := Aside0.mk (Kd.R_below HO6.out hb)
          have hyl : (varint (s.extract j s.size).size ++ bytesOf (s.extract j s.size)).length ≤ 74 := by
            have h1 := varint_le10 (show (s.extract j s.size).size < 18446744073709551616 by rw [ByteArray.size_extract]; omega)
            have h2 : (bytesOf (s.extract j s.size)).length = (s.extract j s.size).size := by unfold bytesOf; rw [List.length_map]; rfl
            rw [List.length_append, h2]
            rw [ByteArray.size_extract] at h1 ⊢
            omega
          have HE2 := Aside0.mk (show xs ++ varint j ++ (varint (s.extract j s.size).size ++ bytesOf (s.extract j s.size)) = varint m ++ encAll [] (List.take (k + 1) l) by
            rw [HE.out, ← HX.out]
            unfold bytesOf
            rw [HSub.out, ByteArray.size_extract]
            unfold numsT
            simp only [List.append_assoc]
            congr 4
            congr 2
            have := HSz.out; omega)
          clear HE HX HSub
          generalize varint (s.extract j s.size).size ++ bytesOf (s.extract j s.size) = ys at *
          have HC7 := Aside0.mk hC7
          clear ho hb hc7 hC7 HO6 HB6
          go_wp2_with (first
            | ((with_reducible refine gate_builtin (b := .append) (xs := #[.tmp 60, .tmp 67]) rfl ?_); at_builtin; refine Kd.R_append_rows (Kd.int .u8) (w0 := w) w.heap.size rfl (.tmp 60) (.tmp 67) 43 5 (.int .u8 0) 1 rfl Try.underlying43 info5 rfl (by decide) (by omega) (v6) (xs ++ varint j) (ys) (A7) (ys).length (c7) (fun _ => True) (fun _ => False) rfl rfl HO7.out HC7.out (fun _ _ h => h) (fun _ h => h.elim) (fun _ _ => trivial) HB7.out HB7.out.size (by rw [List.length_append]; omega) ?_; intro v8 w8 ho8 hb8 hg8 ha8; have HO8 := Aside0.mk ho8; have HB8 := Aside0.mk hb8; clear ho8 hb8 hg8 ha8)
            | fail)
          go_roundw
          case rel => exact ⟨k + 1, by omega, by go_num, ⟨by rw [← HE2.out]; exact HO8.out⟩, HB8⟩
          case measure => simp [intOf]; omega
        · have hcw1 := hcw wr HBv.out
          have hsub : IntKind.i64.wrap ((k : Int) - 1) = (k1 : Int) := by rw [IntKind.wrap_i64]; omega
          have hk2 : decide (0 < k) = true := decide_eq_true (by omega)
          have hk1i : (k1 : Int) < (m : Int) := by omega
          clear hk1 hw0
          by_cases hjs1 : j < s.size
          · by_cases hjw1 : j < sw.size
            · have e1 := HBt.out j hjs1
              have e2 := HBw.out j hjw1
              by_cases he : was.getD j 0 = t.getD j 0
              · have HP2 := Aside0.mk (show ∀ i, i < j + 1 → was.getD i 0 = t.getD i 0 by
                  intro i hi
                  rcases Nat.lt_succ_iff_lt_or_eq.1 hi with h | rfl
                  · exact HP.out i h
                  · exact he)
                have hq : (((s[j].toNat : Nat) : Int) == ((sw[j].toNat : Nat) : Int)) = true := by rw [e1, e2, he]; simp
                have hb1 : j + 1 ≤ was.length := by have := HSz2.out; omega
                have hb2 : j + 1 ≤ t.length := by have := HSz.out; omega
                clear e1 e2 he HP
                go_wp2_with fail
                go_quiet (fail)
                go_wp2_with fail
                go_roundw
                case rel => exact ⟨j + 1, hb1, hb2, by go_num, HP2, ⟨HD.out.step _⟩⟩
                case measure => simp [intOf]; omega
              · obtain rfl : j = n := HI.out j hj1 hj2 HP.out (fun _ _ => he)
                have hq : (((s[j].toNat : Nat) : Int) == ((sw[j].toNat : Nat) : Int)) = false := by
                  rw [e1, e2, beq_eq_false_iff_ne]
                  exact fun h => he (UInt8.toNat_inj.1 (by omega))
                clear e1 e2 he
                have hjs : j ≤ s.size := by have := HSz.out; omega
                have hjw : IntKind.u64.wrap (j : Int) = (j : Int) := by rw [IntKind.wrap_u64]; omega
                have HO2 := Aside0.mk (Kd.R_below HO.out HD.out.below)
                clear HI HD HP hsh
                go_wp2_with fail
                go_quiet (fail)
                go_wp2_with fail
                refine (refuint_calls j _ (by omega) (by omega)).mono ?_
                rintro e w5 ⟨v5, rfl, ho, hb⟩
                rw [Int.toNat_natCast] at ho
                obtain ⟨A5, c5, rfl, hc5, hC5⟩ := Kd.R_reads ho
                have HBd := Aside0.mk (pw_below_drewN HBv.out nq)
                have HOd := Aside0.mk (Kd.R_below HO2.out (pw_below_drewN (Below.refl _ _) nq))
                have HB5 := Aside0.mk (below_then HBd.out HBd.out.size hb)
                have HO5 := Aside0.mk (Kd.R_below HOd.out hb)
                have HC5 := Aside0.mk hC5
                have hvj := varint_le10 (show j < 18446744073709551616 by omega)
                clear ho hb hc5 hC5 HBd HOd HO2 hc1
                go_wp2_with (first
                  | (((with_reducible refine gate_builtin (b := .append) (xs := #[.tmp 55, .tmp 58]) rfl ?_); at_builtin; refine Kd.R_append_rows (Kd.int .u8) (w0 := w) w.heap.size rfl (.tmp 55) (.tmp 58) 43 5 (.int .u8 0) 1 rfl Try.underlying43 info5 rfl (by decide) (by omega) (.slice A2 xs.length c2) (xs) (varint j) (A5) (varint j).length (c5) (fun _ => True) (fun _ => False) rfl rfl HO5.out HC5.out (fun _ _ h => h) (fun _ h => h.elim) (fun _ _ => trivial) HB5.out HB5.out.size (by omega) ?_; intro v6 w6 ho6 hb6 hg6 ha6; have HO6 := Aside0.mk ho6; have HB6 := Aside0.mk hb6; clear ho6 hb6 hg6 ha6); have hc6 := HCell.out _ HB6.out)
                  | fail)
                refine (reftext_calls (s.extract j s.size) _ (by rw [ByteArray.size_extract]; omega)).mono ?_
                rintro e w7 ⟨v7, rfl, ho, hb⟩
                obtain ⟨A7, c7, rfl, hc7, hC7⟩ := Kd.R_reads ho
                have HB7 := Aside0.mk (below_then HB6.out HB6.out.size hb)
                have HO7 := Aside0.mk (Kd.R_below HO6.out hb)
                have hyl : (varint (s.extract j s.size).size ++ bytesOf (s.extract j s.size)).length ≤ 74 := by
                  have h1 := varint_le10 (show (s.extract j s.size).size < 18446744073709551616 by rw [ByteArray.size_extract]; omega)
                  have h2 : (bytesOf (s.extract j s.size)).length = (s.extract j s.size).size := by unfold bytesOf; rw [List.length_map]; rfl
                  rw [List.length_append, h2]
                  rw [ByteArray.size_extract] at h1 ⊢
                  omega
                have HE2 := Aside0.mk (show xs ++ varint j ++ (varint (s.extract j s.size).size ++ bytesOf (s.extract j s.size)) = varint m ++ encAll [] (List.take (k + 1) l) by
                  rw [HE.out, ← HX.out]
                  unfold bytesOf
                  rw [HSub.out, ByteArray.size_extract]
                  unfold numsT
                  simp only [List.append_assoc]
                  congr 4
                  congr 2
                  have := HSz.out; omega)
                clear HE HX HSub
                generalize varint (s.extract j s.size).size ++ bytesOf (s.extract j s.size) = ys at *
                have HC7 := Aside0.mk hC7
                clear ho hb hc7 hC7 HO6 HB6
                go_wp2_with (first
                  | ((with_reducible refine gate_builtin (b := .append) (xs := #[.tmp 60, .tmp 67]) rfl ?_); at_builtin; refine Kd.R_append_rows (Kd.int .u8) (w0 := w) w.heap.size rfl (.tmp 60) (.tmp 67) 43 5 (.int .u8 0) 1 rfl Try.underlying43 info5 rfl (by decide) (by omega) (v6) (xs ++ varint j) (ys) (A7) (ys).length (c7) (fun _ => True) (fun _ => False) rfl rfl HO7.out HC7.out (fun _ _ h => h) (fun _ h => h.elim) (fun _ _ => trivial) HB7.out HB7.out.size (by rw [List.length_append]; omega) ?_; intro v8 w8 ho8 hb8 hg8 ha8; have HO8 := Aside0.mk ho8; have HB8 := Aside0.mk hb8; clear ho8 hb8 hg8 ha8)
                  | fail)
                go_roundw
                case rel => exact ⟨k + 1, by omega, by go_num, ⟨by rw [← HE2.out]; exact HO8.out⟩, HB8⟩
                case measure => simp [intOf]; omega
            · obtain rfl : j = n := HI.out j hj1 hj2 HP.out (fun h => absurd h (by have := HSz2.out; omega))
              have hd : decide ((j : Int) < (sw.size : Int)) = false := decide_eq_false (by omega)
              have hjs : j ≤ s.size := by have := HSz.out; omega
              have hjw : IntKind.u64.wrap (j : Int) = (j : Int) := by rw [IntKind.wrap_u64]; omega
              have HO2 := Aside0.mk (Kd.R_below HO.out HD.out.below)
              clear HI HD HP hsh
              go_wp2_with fail
              go_quiet (fail)
              go_wp2_with fail
              refine (refuint_calls j _ (by omega) (by omega)).mono ?_
              rintro e w5 ⟨v5, rfl, ho, hb⟩
              rw [Int.toNat_natCast] at ho
              obtain ⟨A5, c5, rfl, hc5, hC5⟩ := Kd.R_reads ho
              have HBd := Aside0.mk (pw_below_drewN HBv.out nq)
              have HOd := Aside0.mk (Kd.R_below HO2.out (pw_below_drewN (Below.refl _ _) nq))
              have HB5 := Aside0.mk (below_then HBd.out HBd.out.size hb)
              have HO5 := Aside0.mk (Kd.R_below HOd.out hb)
              have HC5 := Aside0.mk hC5
              have hvj := varint_le10 (show j < 18446744073709551616 by omega)
              clear ho hb hc5 hC5 HBd HOd HO2 hc1
              go_wp2_with (first
                | (((with_reducible refine gate_builtin (b := .append) (xs := #[.tmp 55, .tmp 58]) rfl ?_); at_builtin; refine Kd.R_append_rows (Kd.int .u8) (w0 := w) w.heap.size rfl (.tmp 55) (.tmp 58) 43 5 (.int .u8 0) 1 rfl Try.underlying43 info5 rfl (by decide) (by omega) (.slice A2 xs.length c2) (xs) (varint j) (A5) (varint j).length (c5) (fun _ => True) (fun _ => False) rfl rfl HO5.out HC5.out (fun _ _ h => h) (fun _ h => h.elim) (fun _ _ => trivial) HB5.out HB5.out.size (by omega) ?_; intro v6 w6 ho6 hb6 hg6 ha6; have HO6 := Aside0.mk ho6; have HB6 := Aside0.mk hb6; clear ho6 hb6 hg6 ha6); have hc6 := HCell.out _ HB6.out)
                | fail)
              refine (reftext_calls (s.extract j s.size) _ (by rw [ByteArray.size_extract]; omega)).mono ?_
              rintro e w7 ⟨v7, rfl, ho, hb⟩
              obtain ⟨A7, c7, rfl, hc7, hC7⟩ := Kd.R_reads ho
              have HB7 := Aside0.mk (below_then HB6.out HB6.out.size hb)
              have HO7 := Aside0.mk (Kd.R_below HO6.out hb)
              have hyl : (varint (s.extract j s.size).size ++ bytesOf (s.extract j s.size)).length ≤ 74 := by
                have h1 := varint_le10 (show (s.extract j s.size).size < 18446744073709551616 by rw [ByteArray.size_extract]; omega)
                have h2 : (bytesOf (s.extract j s.size)).length = (s.extract j s.size).size := by unfold bytesOf; rw [List.length_map]; rfl
                rw [List.length_append, h2]
                rw [ByteArray.size_extract] at h1 ⊢
                omega
              have HE2 := Aside0.mk (show xs ++ varint j ++ (varint (s.extract j s.size).size ++ bytesOf (s.extract j s.size)) = varint m ++ encAll [] (List.take (k + 1) l) by
                rw [HE.out, ← HX.out]
                unfold bytesOf
                rw [HSub.out, ByteArray.size_extract]
                unfold numsT
                simp only [List.append_assoc]
                congr 4
                congr 2
                have := HSz.out; omega)
              clear HE HX HSub
              generalize varint (s.extract j s.size).size ++ bytesOf (s.extract j s.size) = ys at *
              have HC7 := Aside0.mk hC7
              clear ho hb hc7 hC7 HO6 HB6
              go_wp2_with (first
                | ((with_reducible refine gate_builtin (b := .append) (xs := #[.tmp 60, .tmp 67]) rfl ?_); at_builtin; refine Kd.R_append_rows (Kd.int .u8) (w0 := w) w.heap.size rfl (.tmp 60) (.tmp 67) 43 5 (.int .u8 0) 1 rfl Try.underlying43 info5 rfl (by decide) (by omega) (v6) (xs ++ varint j) (ys) (A7) (ys).length (c7) (fun _ => True) (fun _ => False) rfl rfl HO7.out HC7.out (fun _ _ h => h) (fun _ h => h.elim) (fun _ _ => trivial) HB7.out HB7.out.size (by rw [List.length_append]; omega) ?_; intro v8 w8 ho8 hb8 hg8 ha8; have HO8 := Aside0.mk ho8; have HB8 := Aside0.mk hb8; clear ho8 hb8 hg8 ha8)
                | fail)
              go_roundw
              case rel => exact ⟨k + 1, by omega, by go_num, ⟨by rw [← HE2.out]; exact HO8.out⟩, HB8⟩
              case measure => simp [intOf]; omega
          · obtain rfl : j = n := HI.out j hj1 hj2 HP.out (fun _ h => absurd h (by have := HSz.out; omega))
            have hd : decide ((j : Int) < (s.size : Int)) = false := decide_eq_false (by omega)
            have hjs : j ≤ s.size := by have := HSz.out; omega
            have hjw : IntKind.u64.wrap (j : Int) = (j : Int) := by rw [IntKind.wrap_u64]; omega
            have HO2 := Aside0.mk (Kd.R_below HO.out HD.out.below)
            clear HI HD HP hsh
            go_wp2_with fail
            go_quiet (fail)
            go_wp2_with fail
            refine (refuint_calls j _ (by omega) (by omega)).mono ?_
            rintro e w5 ⟨v5, rfl, ho, hb⟩
            rw [Int.toNat_natCast] at ho
            obtain ⟨A5, c5, rfl, hc5, hC5⟩ := Kd.R_reads ho
            have HBd := Aside0.mk (pw_below_drewN HBv.out nq)
            have HOd := Aside0.mk (Kd.R_below HO2.out (pw_below_drewN (Below.refl _ _) nq))
            have HB5 := Aside0.mk (below_then HBd.out HBd.out.size hb)
            have HO5 := Aside0.mk (Kd.R_below HOd.out hb)
            have HC5 := Aside0.mk hC5
            have hvj := varint_le10 (show j < 18446744073709551616 by omega)
            clear ho hb hc5 hC5 HBd HOd HO2 hc1
            go_wp2_with (first
              | (((with_reducible refine gate_builtin (b := .append) (xs := #[.tmp 55, .tmp 58]) rfl ?_); at_builtin; refine Kd.R_append_rows (Kd.int .u8) (w0 := w) w.heap.size rfl (.tmp 55) (.tmp 58) 43 5 (.int .u8 0) 1 rfl Try.underlying43 info5 rfl (by decide) (by omega) (.slice A2 xs.length c2) (xs) (varint j) (A5) (varint j).length (c5) (fun _ => True) (fun _ => False) rfl rfl HO5.out HC5.out (fun _ _ h => h) (fun _ h => h.elim) (fun _ _ => trivial) HB5.out HB5.out.size (by omega) ?_; intro v6 w6 ho6 hb6 hg6 ha6; have HO6 := Aside0.mk ho6; have HB6 := Aside0.mk hb6; clear ho6 hb6 hg6 ha6); have hc6 := HCell.out _ HB6.out)
              | fail)
            refine (reftext_calls (s.extract j s.size) _ (by rw [ByteArray.size_extract]; omega)).mono ?_
            rintro e w7 ⟨v7, rfl, ho, hb⟩
            obtain ⟨A7, c7, rfl, hc7, hC7⟩ := Kd.R_reads ho
            have HB7 := Aside0.mk (below_then HB6.out HB6.out.size hb)
            have HO7 := Aside0.mk (Kd.R_below HO6.out hb)
            have hyl : (varint (s.extract j s.size).size ++ bytesOf (s.extract j s.size)).length ≤ 74 := by
              have h1 := varint_le10 (show (s.extract j s.size).size < 18446744073709551616 by rw [ByteArray.size_extract]; omega)
              have h2 : (bytesOf (s.extract j s.size)).length = (s.extract j s.size).size := by unfold bytesOf; rw [List.length_map]; rfl
              rw [List.length_append, h2]
              rw [ByteArray.size_extract] at h1 ⊢
              omega
            have HE2 := Aside0.mk (show xs ++ varint j ++ (varint (s.extract j s.size).size ++ bytesOf (s.extract j s.size)) = varint m ++ encAll [] (List.take (k + 1) l) by
              rw [HE.out, ← HX.out]
              unfold bytesOf
              rw [HSub.out, ByteArray.size_extract]
              unfold numsT
              simp only [List.append_assoc]
              congr 4
              congr 2
              have := HSz.out; omega)
            clear HE HX HSub
            generalize varint (s.extract j s.size).size ++ bytesOf (s.extract j s.size) = ys at *
            have HC7 := Aside0.mk hC7
            clear ho hb hc7 hC7 HO6 HB6
            go_wp2_with (first
              | ((with_reducible refine gate_builtin (b := .append) (xs := #[.tmp 60, .tmp 67]) rfl ?_); at_builtin; refine Kd.R_append_rows (Kd.int .u8) (w0 := w) w.heap.size rfl (.tmp 60) (.tmp 67) 43 5 (.int .u8 0) 1 rfl Try.underlying43 info5 rfl (by decide) (by omega) (v6) (xs ++ varint j) (ys) (A7) (ys).length (c7) (fun _ => True) (fun _ => False) rfl rfl HO7.out HC7.out (fun _ _ h => h) (fun _ h => h.elim) (fun _ _ => trivial) HB7.out HB7.out.size (by rw [List.length_append]; omega) ?_; intro v8 w8 ho8 hb8 hg8 ha8; have HO8 := Aside0.mk ho8; have HB8 := Aside0.mk hb8; clear ho8 hb8 hg8 ha8)
              | fail)
            go_roundw
            case rel => exact ⟨k + 1, by omega, by go_num, ⟨by rw [← HE2.out]; exact HO8.out⟩, HB8⟩
            case measure => simp [intOf]; omega
    · obtain rfl : k = m := by omega
      have HF := Aside0.mk (show varint k ++ encAll [] (l.take k) = dictBytes l by unfold dictBytes; rw [← HM.out, List.take_length])
      rw [HF.out] at HO
      go_wp2_with fail
      go_ret
      exact ⟨_, rfl, HO.out, HB.out⟩
end Go.Proofs.Ytomgfhapmhagnaa.Txt
