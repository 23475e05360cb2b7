/- Texts of this repo, joined, without what this claim does not use: FSwap, FRot, FSym1, FSym2, FSym3, FBlk, FStab2, FSortK, FExtBagAll, P22, FRefBag, FExtWithin, FBagA, FExtBag, P2, FExtLong, P4. -/
import Derived.Test.YtfeeahjaeapkoaaDFactOwn1
import Derived.Test.YtfeeahjaeapkoaaDFactOwn2
section
namespace Go.Proofs.Ytfeeahjaeapkoaa.Ext
set_option linter.unusedVariables false
set_option linter.unusedSimpArgs false
open Go.RowKit Go.Proofs.YtfeeahjaeapkoaaW.PrintWords Go.Proofs.YtfeeahjaeapkoaaW.PrintLast Go.Proofs.YtfeeahjaeapkoaaW.PrintMore Go.Proofs.Ytfeeahjaeapkoaa.Lib
theorem w64 {a : Int} {b : Nat} (h : a = (b : Int)) (hb : b < 9223372036854775808) : wrap64 a = (b : Int) := by
  subst h; unfold wrap64; omega
theorem RS.trans {w w' w2 : World} {base : Nat} {ok : Nat → Prop} {g n c : Nat} {xs ys zs : List Q} (h : RS w w' base ok g n c xs ys) (h2 : RS w' w2 base ok g n c ys zs) : RS w w2 base ok g n c xs zs := ⟨h2.row, h2.perm.trans h.perm, grown_trans h.grown h2.grown⟩
theorem RS.refl {w : World} {base : Nat} {ok : Nat → Prop} {g n c : Nat} {xs : List Q} (h : kq.R 40 w base ok (.slice (some ⟨g, 0, none⟩) n c) xs) : RS w w base ok g n c xs xs := ⟨h, List.Perm.refl _, ⟨rfl, rfl, rfl, Nat.le_refl _, fun _ _ _ => rfl⟩⟩
theorem RS.len {w w' : World} {base : Nat} {ok : Nat → Prop} {g n c : Nat} {xs ys : List Q} (h : RS w w' base ok g n c xs ys) : ys.length = n := (Kd.R_reads' h.row).1.symm
theorem RS.swap2 {w w' : World} {base : Nat} {ok : Nat → Prop} {g n c : Nat} {xs zs : List Q} (h : RS w w' base ok g n c xs zs) (i j : Nat) (hij : i ≠ j) (hi : i < n) (hj : j < n) (p q : Q) (hp : zs.getD i zQ = p) (hq : zs.getD j zQ = q) :
    RS w ((((((((w'.setCell ⟨g, i * 4, none⟩ (.int .i64 q.1)).setCell ⟨g, i * 4 + 1, none⟩ (.slice q.2.1.1 q.2.1.2.1 q.2.1.2.2)).setCell ⟨g, i * 4 + 2, none⟩ (.slice q.2.2.1.1 q.2.2.1.2.1 q.2.2.1.2.2)).setCell ⟨g, i * 4 + 3, none⟩ (.int .u64 q.2.2.2)).setCell ⟨g, j * 4, none⟩ (.int .i64 p.1)).setCell ⟨g, j * 4 + 1, none⟩ (.slice p.2.1.1 p.2.1.2.1 p.2.1.2.2)).setCell ⟨g, j * 4 + 2, none⟩ (.slice p.2.2.1.1 p.2.2.1.2.1 p.2.2.1.2.2)).setCell ⟨g, j * 4 + 3, none⟩ (.int .u64 p.2.2.2)) base ok g n c xs ((zs.set i q).set j p) ∧ at_ ((zs.set i q).set j p) = swapF i j 1 (at_ zs) := by
  subst hp hq
  have hl := h.len
  obtain ⟨r1, g1⟩ := kq_put h.row i hi (zs.getD j zQ)
  obtain ⟨r2, g2⟩ := kq_put r1 j hj (zs.getD i zQ)
  have hperm : ((zs.set i (at_ zs j)).set j (at_ zs i)).Perm zs := by
    rcases Nat.lt_or_gt_of_ne hij with h1 | h1
    · exact set_perm zs i j (by omega) h1
    · rw [List.set_comm _ _ (by omega)]; exact set_perm zs j i (by omega) h1
  have := (show RS w ((w'.setCells g (i * 4) (encQ (zs.getD j zQ))).setCells g (j * 4) (encQ (zs.getD i zQ))) base ok g n c xs ((zs.set i (zs.getD j zQ)).set j (zs.getD i zQ)) from ⟨r2, hperm.trans h.perm, grown_trans (grown_trans h.grown g1) g2⟩)
  rw [set4, set4] at this
  exact ⟨this, swap_at zs i j (by omega) (by omega) hij⟩
set_option maxRecDepth 100000 in
set_option maxHeartbeats 1600000 in
theorem swapr_calls (fv : Value) (g c n a b k : Nat) (xs : List Q) (w : World) (base : Nat) (ok : Nat → Prop)
    (hrow : kq.R 40 w base ok (.slice (some ⟨g, 0, none⟩) n c) xs) (hab : a + k ≤ b ∨ b + k ≤ a) (ha : a + k ≤ n) (hb : b + k ≤ n) (hn : n ≤ 4611686018427387904) :
    Calls Try.prog 60 #[.slice (some ⟨g, 0, none⟩) n c, .int .i64 a, .int .i64 b, .int .i64 k, fv] w fun e w' => e = .returned (.tuple #[]) ∧ ∃ ys, RS w w' base ok g n c xs ys ∧ at_ ys = swapF a b k (at_ xs) := by
  have HR := Aside0.mk (RS.refl hrow)
  clear hrow
  go_enter Try.func60, Try.ntmps60
  go_wp2_with fail
  go_loopw [10] (fun v10 w' => ∃ (i : Nat) (ys : List Q), v10 = .int .i64 i ∧ i ≤ k ∧ Aside0 (RS w w' base ok g n c xs ys) ∧ Aside0 (at_ ys = swapF a b i (at_ xs))) (fun v10 _ => k - (intOf v10).toNat)
  case atStart => exact ⟨0, xs, rfl, Nat.zero_le _, HR, ⟨(swapF_zero a b _).symm⟩⟩
  case round =>
    clear HR
    obtain ⟨i, ys, rfl, hik, HR, HS⟩ := hrel
    by_cases hlt : i < k
    · have hlt2 : (i : Int) < (k : Int) := by omega
      obtain ⟨x, hx⟩ : ∃ x, x = a + i := ⟨_, rfl⟩
      obtain ⟨y, hy⟩ : ∃ y, y = b + i := ⟨_, rfl⟩
      obtain ⟨d10, d11, d12, d13⟩ := kq_get HR.out.row y (by omega)
      obtain ⟨d00, d01, d02, d03⟩ := kq_get HR.out.row x (by omega)
      simp only [encSL] at d11 d12 d01 d02
      have HSw := Aside0.mk (RS.swap2 HR.out x y (by omega) (by omega) (by omega) _ _ rfl rfl)
      have HS2 := Aside0.mk (show swapF x y 1 (at_ ys) = swapF a b (i + 1) (at_ xs) by
        rw [HS.out, hx, hy]
        exact swapF_next a b i _ (by omega))
      obtain ⟨cs3, hcs3⟩ := Kd.R_typed HR.out.row g rfl
      have hfz : ∀ o, wr.frozen? ⟨g, o, none⟩ = false := fun o => blk_frozen hcs3 o
      have hai : (x : Int) < (n : Int) := by omega
      have hbi : (y : Int) < (n : Int) := by omega
      have hwa : wrap64 ((a : Int) + (i : Int)) = (x : Int) := by unfold wrap64; omega
      have hwb : wrap64 ((b : Int) + (i : Int)) = (y : Int) := by unfold wrap64; omega
      generalize hp : ys.getD x zQ = p at *
      generalize hq : ys.getD y zQ = q at *
      have hxy : ¬ x = y := by omega
      have hyx : ¬ y = x := by omega
      clear hp hq hx hy
      go_wp2_with fail
      refine start_ (n := 24) (S := fun w' => w'.cell? ⟨g, y * 4, none⟩ = some (.int .i64 q.1) ∧ w'.cell? ⟨g, y * 4 + 1, none⟩ = some (.slice q.2.1.1 q.2.1.2.1 q.2.1.2.2) ∧ w'.cell? ⟨g, y * 4 + 2, none⟩ = some (.slice q.2.2.1.1 q.2.2.1.2.1 q.2.2.1.2.2) ∧ w'.cell? ⟨g, y * 4 + 3, none⟩ = some (.int .u64 q.2.2.2) ∧ w'.cell? ⟨g, x * 4, none⟩ = some (.int .i64 p.1) ∧ w'.cell? ⟨g, x * 4 + 1, none⟩ = some (.slice p.2.1.1 p.2.1.2.1 p.2.1.2.2) ∧ w'.cell? ⟨g, x * 4 + 2, none⟩ = some (.slice p.2.2.1.1 p.2.2.1.2.1 p.2.2.1.2.2) ∧ w'.cell? ⟨g, x * 4 + 3, none⟩ = some (.int .u64 p.2.2.2) ∧ ∀ o, w'.frozen? ⟨g, o, none⟩ = false) (ds := [21, 23]) #[false, false, false, false, false, false, false, false, false, false, false, false, false, false, false, false, false, false, false, false, false, false, false, false] (by kernel_rfl) rfl rfl ⟨d10, d11, d12, d13, d00, d01, d02, d03, hfz⟩ (fun hHeld => ?_)
      refine pure_ (i := 0) (N := some 16) (v := ?_) (a' := ?_) #[true, false, false, false, false, false, false, false, false, false, false, false, false, false, false, false, false, false, false, false, false, false, false, false] rfl rfl (by kernel_rfl) (fun _ _ _ h => h) (Or.inl ⟨by rfl, ?_⟩) ?_ ?_
      rotate_left
      · intro w'
        go_simp
        with_reducible rfl
      rotate_left
      · simp only [Act.put, List.setIfInBounds_toArray, List.set_cons_zero, List.set_cons_succ, i64_w, i32_w]
        rfl
      refine pure_ (i := 1) (N := some 17) (v := ?_) (a' := ?_) #[true, true, false, false, false, false, false, false, false, false, false, false, false, false, false, false, false, false, false, false, false, false, false, false] rfl rfl (by kernel_rfl) (fun _ _ _ h => h) (Or.inl ⟨by rfl, ?_⟩) ?_ ?_
      rotate_left
      · intro w'
        go_simp
        with_reducible rfl
      rotate_left
      · simp only [Act.put, List.setIfInBounds_toArray, List.set_cons_zero, List.set_cons_succ, i64_w, i32_w]
        rfl
      refine pure_ (i := 2) (N := some 18) (v := ?_) (a' := ?_) #[true, true, true, false, false, false, false, false, false, false, false, false, false, false, false, false, false, false, false, false, false, false, false, false] rfl rfl (by kernel_rfl) (fun _ _ _ h => h) (Or.inl ⟨by rfl, ?_⟩) ?_ ?_
      rotate_left
      · intro w'
        go_simp
        with_reducible rfl
      rotate_left
      · simp only [Act.put, List.setIfInBounds_toArray, List.set_cons_zero, List.set_cons_succ, i64_w, i32_w]
        rfl
      refine pure_ (i := 3) (N := some 19) (v := ?_) (a' := ?_) #[true, true, true, true, false, false, false, false, false, false, false, false, false, false, false, false, false, false, false, false, false, false, false, false] rfl rfl (by kernel_rfl) (fun _ _ _ h => h) (Or.inl ⟨by rfl, ?_⟩) ?_ ?_
      rotate_left
      · intro w'
        go_simp
        with_reducible rfl
      rotate_left
      · simp only [Act.put, List.setIfInBounds_toArray, List.set_cons_zero, List.set_cons_succ, i64_w, i32_w]
        rfl
      refine pure_ (i := 4) (N := some 20) (v := ?_) (a' := ?_) #[true, true, true, true, true, false, false, false, false, false, false, false, false, false, false, false, false, false, false, false, false, false, false, false] rfl rfl (by kernel_rfl) (fun _ _ _ h => h) (Or.inl ⟨by rfl, ?_⟩) ?_ ?_
      rotate_left
      · intro w'
        go_simp
        with_reducible rfl
      rotate_left
      · simp only [Act.put, List.setIfInBounds_toArray, List.set_cons_zero, List.set_cons_succ, i64_w, i32_w]
        rfl
      refine pure_ (i := 5) (N := some 21) (v := ?_) (a' := ?_) #[true, true, true, true, true, true, false, false, false, false, false, false, false, false, false, false, false, false, false, false, false, false, false, false] rfl rfl (by kernel_rfl) (fun _ _ _ h => h) (Or.inl ⟨by rfl, ?_⟩) ?_ ?_
      rotate_left
      · intro w'
        go_simp
        with_reducible rfl
      rotate_left
      · simp only [Act.put, List.setIfInBounds_toArray, List.set_cons_zero, List.set_cons_succ, i64_w, i32_w]
        rfl
      refine pure_ (i := 6) (N := some 22) (v := ?_) (a' := ?_) #[true, true, true, true, true, true, true, false, false, false, false, false, false, false, false, false, false, false, false, false, false, false, false, false] rfl rfl (by kernel_rfl) (fun _ _ _ h => h) (Or.inl ⟨by rfl, ?_⟩) ?_ ?_
      rotate_left
      · intro w'
        go_simp
        with_reducible rfl
      rotate_left
      · simp only [Act.put, List.setIfInBounds_toArray, List.set_cons_zero, List.set_cons_succ, i64_w, i32_w]
        rfl
      refine pure_ (i := 7) (N := some 23) (v := ?_) (a' := ?_) #[true, true, true, true, true, true, true, true, false, false, false, false, false, false, false, false, false, false, false, false, false, false, false, false] rfl rfl (by kernel_rfl) (fun _ _ _ h => h) (Or.inl ⟨by rfl, ?_⟩) ?_ ?_
      rotate_left
      · intro w'
        go_simp
        with_reducible rfl
      rotate_left
      · simp only [Act.put, List.setIfInBounds_toArray, List.set_cons_zero, List.set_cons_succ, i64_w, i32_w]
        rfl
      refine pure_ (i := 8) (N := some 24) (v := ?_) (a' := ?_) #[true, true, true, true, true, true, true, true, true, false, false, false, false, false, false, false, false, false, false, false, false, false, false, false] rfl rfl (by kernel_rfl) (fun _ _ _ h => h) (Or.inl ⟨by rfl, ?_⟩) ?_ ?_
      rotate_left
      · intro w'
        go_simp
        with_reducible rfl
      rotate_left
      · simp only [Act.put, List.setIfInBounds_toArray, List.set_cons_zero, List.set_cons_succ, i64_w, i32_w]
        rfl
      refine pure_ (i := 9) (N := some 25) (v := ?_) (a' := ?_) #[true, true, true, true, true, true, true, true, true, true, false, false, false, false, false, false, false, false, false, false, false, false, false, false] rfl rfl (by kernel_rfl) (fun _ _ _ h => h) (Or.inl ⟨by rfl, ?_⟩) ?_ ?_
      rotate_left
      · intro w'
        go_simp
        with_reducible rfl
      rotate_left
      · simp only [Act.put, List.setIfInBounds_toArray, List.set_cons_zero, List.set_cons_succ, i64_w, i32_w]
        rfl
      refine pure_ (i := 10) (N := some 26) (v := ?_) (a' := ?_) #[true, true, true, true, true, true, true, true, true, true, true, false, false, false, false, false, false, false, false, false, false, false, false, false] rfl rfl (by kernel_rfl) (fun _ _ _ h => h) (Or.inl ⟨by rfl, ?_⟩) ?_ ?_
      rotate_left
      · intro w'
        go_simp
        with_reducible rfl
      rotate_left
      · simp only [Act.put, List.setIfInBounds_toArray, List.set_cons_zero, List.set_cons_succ, i64_w, i32_w]
        rfl
      refine pure_ (i := 11) (N := some 27) (v := ?_) (a' := ?_) #[true, true, true, true, true, true, true, true, true, true, true, true, false, false, false, false, false, false, false, false, false, false, false, false] rfl rfl (by kernel_rfl) (fun _ _ _ h => h) (Or.inl ⟨by rfl, ?_⟩) ?_ ?_
      rotate_left
      · intro w'
        go_simp
        with_reducible rfl
      rotate_left
      · simp only [Act.put, List.setIfInBounds_toArray, List.set_cons_zero, List.set_cons_succ, i64_w, i32_w]
        rfl
      refine pure_ (i := 12) (N := some 28) (v := ?_) (a' := ?_) #[true, true, true, true, true, true, true, true, true, true, true, true, true, false, false, false, false, false, false, false, false, false, false, false] rfl rfl (by kernel_rfl) (fun _ _ _ h => h) (Or.inl ⟨by rfl, ?_⟩) ?_ ?_
      rotate_left
      · intro w'
        go_simp
        with_reducible rfl
      rotate_left
      · simp only [Act.put, List.setIfInBounds_toArray, List.set_cons_zero, List.set_cons_succ, i64_w, i32_w]
        rfl
      refine pure_ (i := 14) (N := some 30) (v := ?_) (a' := ?_) #[true, true, true, true, true, true, true, true, true, true, true, true, true, false, true, false, false, false, false, false, false, false, false, false] rfl rfl (by kernel_rfl) (fun _ _ _ h => h) (Or.inl ⟨by rfl, ?_⟩) ?_ ?_
      rotate_left
      · intro w'
        go_simp
        with_reducible rfl
      rotate_left
      · simp only [Act.put, List.setIfInBounds_toArray, List.set_cons_zero, List.set_cons_succ, i64_w, i32_w]
        rfl
      refine pure_ (i := 15) (N := some 31) (v := ?_) (a' := ?_) #[true, true, true, true, true, true, true, true, true, true, true, true, true, false, true, true, false, false, false, false, false, false, false, false] rfl rfl (by kernel_rfl) (fun _ _ _ h => h) (Or.inl ⟨by rfl, ?_⟩) ?_ ?_
      rotate_left
      · intro w'
        go_simp
        with_reducible rfl
      rotate_left
      · simp only [Act.put, List.setIfInBounds_toArray, List.set_cons_zero, List.set_cons_succ, i64_w, i32_w]
        rfl
      refine pure_ (i := 16) (N := some 32) (v := ?_) (a' := ?_) #[true, true, true, true, true, true, true, true, true, true, true, true, true, false, true, true, true, false, false, false, false, false, false, false] rfl rfl (by kernel_rfl) (fun _ _ _ h => h) (Or.inl ⟨by rfl, ?_⟩) ?_ ?_
      rotate_left
      · intro w'
        go_simp
        with_reducible rfl
      rotate_left
      · simp only [Act.put, List.setIfInBounds_toArray, List.set_cons_zero, List.set_cons_succ, i64_w, i32_w]
        rfl
      refine pure_ (i := 17) (N := some 33) (v := ?_) (a' := ?_) #[true, true, true, true, true, true, true, true, true, true, true, true, true, false, true, true, true, true, false, false, false, false, false, false] rfl rfl (by kernel_rfl) (fun _ _ _ h => h) (Or.inl ⟨by rfl, ?_⟩) ?_ ?_
      rotate_left
      · intro w'
        go_simp
        with_reducible rfl
      rotate_left
      · simp only [Act.put, List.setIfInBounds_toArray, List.set_cons_zero, List.set_cons_succ, i64_w, i32_w]
        rfl
      refine pure_ (i := 18) (N := some 34) (v := ?_) (a' := ?_) #[true, true, true, true, true, true, true, true, true, true, true, true, true, false, true, true, true, true, true, false, false, false, false, false] rfl rfl (by kernel_rfl) (fun _ _ _ h => h) (Or.inl ⟨by rfl, ?_⟩) ?_ ?_
      rotate_left
      · intro w'
        go_simp
        with_reducible rfl
      rotate_left
      · simp only [Act.put, List.setIfInBounds_toArray, List.set_cons_zero, List.set_cons_succ, i64_w, i32_w]
        rfl
      refine take_ (i := 13) (N := some 29) (v := ?_) (a' := ?_) #[true, true, true, true, true, true, true, true, true, true, true, true, true, true, true, true, true, true, true, false, false, false, false, false] rfl rfl (by kernel_rfl) (fun _ _ _ h => h) (Or.inl ⟨by rfl, ?_⟩) hHeld ?_ ?_
      rotate_left
      · rintro w' ⟨s0, s1, s2, s3, s4, s5, s6, s7, s8⟩
        go_simp
        with_reducible rfl
      rotate_left
      · simp only [Act.put, List.setIfInBounds_toArray, List.set_cons_zero, List.set_cons_succ, i64_w, i32_w]
        rfl
      refine take_ (i := 19) (N := some 35) (v := ?_) (a' := ?_) #[true, true, true, true, true, true, true, true, true, true, true, true, true, true, true, true, true, true, true, true, false, false, false, false] rfl rfl (by kernel_rfl) (fun _ _ _ h => h) (Or.inl ⟨by rfl, ?_⟩) hHeld ?_ ?_
      rotate_left
      · rintro w' ⟨s0, s1, s2, s3, s4, s5, s6, s7, s8⟩
        go_simp
        with_reducible rfl
      rotate_left
      · simp only [Act.put, List.setIfInBounds_toArray, List.set_cons_zero, List.set_cons_succ, i64_w, i32_w]
        rfl
      refine pure_ (i := 20) (N := some 36) (v := ?_) (a' := ?_) #[true, true, true, true, true, true, true, true, true, true, true, true, true, true, true, true, true, true, true, true, true, false, false, false] rfl rfl (by kernel_rfl) (fun _ _ _ h => h) (Or.inl ⟨by rfl, ?_⟩) ?_ ?_
      rotate_left
      · intro w'
        go_simp
        with_reducible rfl
      rotate_left
      · simp only [Act.put, List.setIfInBounds_toArray, List.set_cons_zero, List.set_cons_succ, i64_w, i32_w]
        rfl
      refine last_ (i := 21) (N := none) #[true, true, true, true, true, true, true, true, true, true, true, true, true, true, true, true, true, true, true, true, true, true, false, false] rfl rfl (by kernel_rfl) (by decide) (fun K hK => ?_)
      refine skip_ (w1 := ?_) (by rfl) rfl ?_ ?_
      rotate_left
      · go_simp
        rfl
      refine hK.out _ _ ?_
      clear hK K
      refine pure_ (i := 22) (N := some 37) (v := ?_) (a' := ?_) #[true, true, true, true, true, true, true, true, true, true, true, true, true, true, true, true, true, true, true, true, true, true, true, false] rfl rfl (by kernel_rfl) (fun _ _ _ h => h) (Or.inl ⟨by rfl, ?_⟩) ?_ ?_
      rotate_left
      · intro w'
        go_simp
        with_reducible rfl
      rotate_left
      · simp only [Act.put, List.setIfInBounds_toArray, List.set_cons_zero, List.set_cons_succ, i64_w, i32_w]
        rfl
      refine last_ (i := 23) (N := none) #[true, true, true, true, true, true, true, true, true, true, true, true, true, true, true, true, true, true, true, true, true, true, true, true] rfl rfl (by kernel_rfl) (by decide) (fun K hK => ?_)
      refine skip_ (w1 := ?_) (by rfl) rfl ?_ ?_
      rotate_left
      · go_simp
        rfl
      refine hK.out _ _ ?_
      clear hK K
      refine done_ (by kernel_rfl) ?_
      have HR4 := Aside0.mk HSw.out.1.drew
      have HS4 := Aside0.mk (HSw.out.2.trans HS2.out)
      clear HR HSw HS HS2 hHeld hcs3 hfz d00 d01 d02 d03 d10 d11 d12 d13
      generalize World.drew _ = w4 at *
      go_wp2_with fail
      go_roundw
      case rel => exact ⟨i + 1, _, by go_num, by omega, HR4, HS4⟩
      case measure => simp [intOf]; omega
    · have e0 : i = k := by omega
      subst e0
      have hlt2 : decide (i < i) = false := decide_eq_false (by omega)
      clear hlt
      go_wp2_with fail
      go_end0
      exact ⟨rfl, ys, HR.out, HS.out⟩
end Go.Proofs.Ytfeeahjaeapkoaa.Ext
end

section
namespace Go.Proofs.Ytfeeahjaeapkoaa.Ext
set_option linter.unusedVariables false
set_option linter.unusedSimpArgs false
open Go.RowKit Go.Proofs.YtfeeahjaeapkoaaW.PrintWords Go.Proofs.YtfeeahjaeapkoaaW.PrintLast Go.Proofs.YtfeeahjaeapkoaaW.PrintMore Go.Proofs.Ytfeeahjaeapkoaa.Lib
set_option maxRecDepth 100000 in
set_option maxHeartbeats 1600000 in
theorem rot_calls (fv : Value) (g c n a m b : Nat) (xs : List Q) (w : World) (base : Nat) (ok : Nat → Prop)
    (hrow : kq.R 40 w base ok (.slice (some ⟨g, 0, none⟩) n c) xs) (ham : a < m) (hmb : m < b) (hb : b ≤ n) (hn : n ≤ 2305843009213693952) :
    Calls Try.prog 59 #[.slice (some ⟨g, 0, none⟩) n c, .int .i64 a, .int .i64 m, .int .i64 b, fv] w fun e w' => e = .returned (.tuple #[]) ∧ ∃ ys, RS w w' base ok g n c xs ys ∧ at_ ys = rotF a m b (at_ xs) := by
  have HR := Aside0.mk (RS.refl hrow)
  clear hrow
  go_enter Try.func59, Try.ntmps59
  go_wp2_with fail
  go_loopw [10, 11] (fun v10 v11 w' => ∃ (i j : Nat) (ys : List Q), v10 = .int .i64 i ∧ v11 = .int .i64 j ∧ 0 < i ∧ 0 < j ∧ i ≤ m ∧ m + j ≤ n ∧ Aside0 (RS w w' base ok g n c xs ys) ∧ Aside0 (rotF (m - i) m (m + j) (at_ ys) = rotF a m b (at_ xs))) (fun v10 v11 _ => (intOf v10).toNat + (intOf v11).toNat)
  case atStart => exact ⟨m - a, b - m, xs, by go_num, by go_num, by omega, by omega, by omega, by omega, HR, ⟨by rw [show m - (m - a) = a by omega, show m + (b - m) = b by omega]⟩⟩
  case round =>
    clear HR
    obtain ⟨i, j, ys, rfl, rfl, hi0, hj0, him, hmj, HR, HS⟩ := hrel
    rcases Nat.lt_trichotomy i j with h1 | h1 | h1
    · have t1 : ((i : Int) == (j : Int)) = false := beq_eq_false_iff_ne.2 (by omega)
      have t3 : decide ((j : Int) < (i : Int)) = false := decide_eq_false (by omega)
      have t4 : decide (j < i) = false := decide_eq_false (by omega)
      obtain ⟨x, hx⟩ : ∃ x, x = m - i := ⟨_, rfl⟩
      obtain ⟨z, hz⟩ : ∃ z, z = m + j := ⟨_, rfl⟩
      obtain ⟨y, hy⟩ : ∃ y, y = z - i := ⟨_, rfl⟩
      obtain ⟨k, hk⟩ : ∃ k, k = j - i := ⟨_, rfl⟩
      have Ew1 := Aside0.mk (show ((m : Int) - (i : Int)) = (x : Int) ∧ x < 9223372036854775808 by omega)
      have Ew2 := Aside0.mk (show ((m : Int) + (j : Int)) = (z : Int) ∧ z < 9223372036854775808 by omega)
      have Ew3 := Aside0.mk (show ((z : Int) - (i : Int)) = (y : Int) ∧ y < 9223372036854775808 by omega)
      have Ew4 := Aside0.mk (show ((j : Int) - (i : Int)) = (k : Int) ∧ k < 9223372036854775808 by omega)
      have HC := Aside0.mk (swapr_calls fv g c n x y i ys wr base ok HR.out.row (by omega) (by omega) (by omega) (by omega))
      have HS2 := Aside0.mk (show rotF (m - i) m (m + k) (swapF x y i (at_ ys)) = rotF a m b (at_ xs) by
        rw [← HS.out, hk, hx, hy, hz]
        exact rot_less m i j (at_ ys) him h1 hi0)
      have HK := Aside0.mk (show 0 < k ∧ m + k ≤ n ∧ i + k < i + j by omega)
      have HI := Aside0.mk (show 0 < i ∧ i ≤ m from ⟨hi0, him⟩)
      clear h1 hi0 hj0 him hmj ham hmb hb hn hx hy hz hk
      have w1 : wrap64 ((m : Int) - (i : Int)) = (x : Int) := w64 Ew1.out.1 Ew1.out.2
      have w2 : wrap64 ((m : Int) + (j : Int)) = (z : Int) := w64 Ew2.out.1 Ew2.out.2
      have w3 : wrap64 ((z : Int) - (i : Int)) = (y : Int) := w64 Ew3.out.1 Ew3.out.2
      have w4 : wrap64 ((j : Int) - (i : Int)) = (k : Int) := w64 Ew4.out.1 Ew4.out.2
      go_wp2_with (first | (go_at_call 60; refine HC.out.mono ?_; rintro e w4 ⟨rfl, zs, hr4, hs4⟩; have HR4 := Aside0.mk (HR.out.trans hr4); have HS4 := Aside0.mk hs4; clear hr4 hs4) | fail)
      go_roundw
      case rel => exact ⟨i, k, zs, rfl, by go_num, HI.out.1, HK.out.1, HI.out.2, HK.out.2.1, HR4, ⟨by rw [HS4.out]; exact HS2.out⟩⟩
      case measure => have := HK.out.2.2; simp [intOf]; omega
    · subst h1
      have t1 : ((i : Int) == (i : Int)) = true := beq_iff_eq.2 rfl
      obtain ⟨x, hx⟩ : ∃ x, x = m - i := ⟨_, rfl⟩
      have Ew1 := Aside0.mk (show ((m : Int) - (i : Int)) = (x : Int) ∧ x < 9223372036854775808 by omega)
      have HC := Aside0.mk (swapr_calls fv g c n x m i ys wr base ok HR.out.row (by omega) (by omega) (by omega) (by omega))
      have HS2 := Aside0.mk (show swapF x m i (at_ ys) = rotF a m b (at_ xs) by
        rw [← HS.out, hx]
        exact rot_same m i (at_ ys) him)
      clear hi0 hj0 him hmj ham hmb hb hn hx
      have w1 : wrap64 ((m : Int) - (i : Int)) = (x : Int) := w64 Ew1.out.1 Ew1.out.2
      go_wp2_with (first | (go_at_call 60; refine HC.out.mono ?_; rintro e w4 ⟨rfl, zs, hr4, hs4⟩; have HR4 := Aside0.mk (HR.out.trans hr4); have HS4 := Aside0.mk hs4; clear hr4 hs4) | fail)
      go_end0
      exact ⟨rfl, zs, HR4.out, HS4.out.trans HS2.out⟩
    · have t1 : ((i : Int) == (j : Int)) = false := beq_eq_false_iff_ne.2 (by omega)
      have t3 : (j : Int) < (i : Int) := by omega
      obtain ⟨x, hx⟩ : ∃ x, x = m - i := ⟨_, rfl⟩
      obtain ⟨k, hk⟩ : ∃ k, k = i - j := ⟨_, rfl⟩
      have Ew1 := Aside0.mk (show ((m : Int) - (i : Int)) = (x : Int) ∧ x < 9223372036854775808 by omega)
      have Ew4 := Aside0.mk (show ((i : Int) - (j : Int)) = (k : Int) ∧ k < 9223372036854775808 by omega)
      have HC := Aside0.mk (swapr_calls fv g c n x m j ys wr base ok HR.out.row (by omega) (by omega) (by omega) (by omega))
      have HS2 := Aside0.mk (show rotF (m - k) m (m + j) (swapF x m j (at_ ys)) = rotF a m b (at_ xs) by
        rw [← HS.out, hk, hx]
        exact rot_more m i j (at_ ys) him h1 hj0)
      have HK := Aside0.mk (show 0 < k ∧ k ≤ m ∧ k + j < i + j by omega)
      have HI := Aside0.mk (show 0 < j ∧ m + j ≤ n from ⟨hj0, hmj⟩)
      clear h1 hi0 hj0 him hmj ham hmb hb hn hx hk
      have w1 : wrap64 ((m : Int) - (i : Int)) = (x : Int) := w64 Ew1.out.1 Ew1.out.2
      have w4 : wrap64 ((i : Int) - (j : Int)) = (k : Int) := w64 Ew4.out.1 Ew4.out.2
      go_wp2_with (first | (go_at_call 60; refine HC.out.mono ?_; rintro e w4 ⟨rfl, zs, hr4, hs4⟩; have HR4 := Aside0.mk (HR.out.trans hr4); have HS4 := Aside0.mk hs4; clear hr4 hs4) | fail)
      go_roundw
      case rel => exact ⟨k, j, zs, by go_num, rfl, HK.out.1, HI.out.1, HK.out.2.1, HI.out.2, HR4, ⟨by rw [HS4.out]; exact HS2.out⟩⟩
      case measure => have := HK.out.2.2; simp [intOf]; omega
end Go.Proofs.Ytfeeahjaeapkoaa.Ext
end

section
namespace Go.Proofs.Ytfeeahjaeapkoaa.Ext
set_option linter.unusedVariables false
set_option linter.unusedSimpArgs false
open Go.RowKit Go.Proofs.YtfeeahjaeapkoaaW.PrintWords Go.Proofs.YtfeeahjaeapkoaaW.PrintLast Go.Proofs.YtfeeahjaeapkoaaW.PrintMore Go.Proofs.Ytfeeahjaeapkoaa.Lib
inductive RelA (cf : Q → Q → Int) (w : World) (base : Nat) (ok : Nat → Prop) (g n c : Nat) (xs : List Q) (lo hi p : Nat) (v1 v2 : Value) (w' : World) : Prop
  | mk (i j : Nat) (e1 : v1 = .int .i64 i) (e2 : v2 = .int .i64 j) (h1 : lo ≤ i) (h2 : i ≤ j) (h3 : j ≤ hi) (hl : lo < i → cf (at_ xs (i - 1)) (at_ xs p) < 0) (hr : j < hi → ¬ cf (at_ xs j) (at_ xs p) < 0) (hrs : RS w w' base ok g n c xs xs)
inductive RelA2 (cf : Q → Q → Int) (w : World) (base : Nat) (ok : Nat → Prop) (g n c : Nat) (xs : List Q) (lo hi p : Nat) (v1 v2 : Value) (w' : World) : Prop
  | mk (i j : Nat) (e1 : v1 = .int .i64 i) (e2 : v2 = .int .i64 j) (h1 : lo ≤ i) (h2 : i ≤ j) (h3 : j ≤ hi) (hl : lo < i → ¬ cf (at_ xs p) (at_ xs (i - 1)) < 0) (hr : j < hi → cf (at_ xs p) (at_ xs j) < 0) (hrs : RS w w' base ok g n c xs xs)
inductive RelA3 (cf : Q → Q → Int) (w : World) (base : Nat) (ok : Nat → Prop) (g n c : Nat) (xs : List Q) (lo hi p : Nat) (v1 v2 : Value) (w' : World) : Prop
  | mk (i j : Nat) (e1 : v1 = .int .i64 i) (e2 : v2 = .int .i64 j) (h1 : lo ≤ i) (h2 : i ≤ j) (h3 : j ≤ hi) (hl : lo < i → ¬ cf (at_ xs (p - (i - 1))) (at_ xs (i - 1)) < 0) (hr : j < hi → cf (at_ xs (p - j)) (at_ xs j) < 0) (hrs : RS w w' base ok g n c xs xs)
inductive RelB (w : World) (base : Nat) (ok : Nat → Prop) (g n c : Nat) (xs : List Q) (a hi : Nat) (v : Value) (w' : World) : Prop
  | mk (k : Nat) (ys : List Q) (e : v = .int .i64 k) (h1 : a ≤ k) (h2 : k ≤ hi) (hrs : RS w w' base ok g n c xs ys) (hy : at_ ys = rotF a (a + 1) (k + 1) (at_ xs))
inductive RelB2 (w : World) (base : Nat) (ok : Nat → Prop) (g n c : Nat) (xs : List Q) (lo m : Nat) (v : Value) (w' : World) : Prop
  | mk (k : Nat) (ys : List Q) (e : v = .int .i64 k) (h1 : lo ≤ k) (h2 : k ≤ m) (hrs : RS w w' base ok g n c xs ys) (hy : at_ ys = rotF k m (m + 1) (at_ xs))
set_option maxRecDepth 100000 in
set_option maxHeartbeats 3200000 in
theorem sym1_calls (cf : Q → Q → Int) (hp : Pre cf) (f : FuncId) (fn : Func) (hf : Try.prog.funcs[f]? = some fn) (hname : (fn.name == "runtime.NumGoroutine") = false) (hbody : fn.body.isSome = true) (g c n : Nat) (base : Nat) (ok : Nat → Prop) (hn : n ≤ 1152921504606846976) (a m b : Nat) (xs : List Q) (w : World)
    (hrow : kq.R 40 w base ok (.slice (some ⟨g, 0, none⟩) n c) xs) (hcmp : CmpOk f cf w g xs) (h1 : SrtOn cf (at_ xs) a m) (h2 : SrtOn cf (at_ xs) m b) (hm : m = a + 1) (hmb : m < b) (hb : b ≤ n) :
    Calls Try.prog 58 #[.slice (some ⟨g, 0, none⟩) n c, .int .i64 a, .int .i64 m, .int .i64 b, .func (.func f) #[] #[]] w fun e w' => e = .returned (.tuple #[]) ∧ ∃ ys, RS w w' base ok g n c xs ys ∧ In a b (at_ xs) (at_ ys) ∧ SrtOn cf (at_ ys) a b := by
  have HF := Aside0.mk hf
  have HNm := Aside0.mk hname
  have HBd := Aside0.mk hbody
  have HCmp := Aside0.mk hcmp
  have HP := Aside0.mk hp
  have H1 := Aside0.mk h1
  have H2 := Aside0.mk h2
  have HR := Aside0.mk (RS.refl hrow)
  clear hf hname hbody hcmp hrow hp h1 h2
  have t1 : (m : Int) - (a : Int) = 1 := by omega
  have HM := Aside0.mk hm
  have HMa := Aside0.mk (show a < m ∧ a < n by omega)
  clear hm
  go_enter Try.func58, Try.ntmps58
  go_wp2_with fail
  go_loopw [10, 11] (fun v10 v11 w' => RelA cf w base ok g n c xs m b a v10 v11 w') (fun v10 v11 _ => (intOf v11).toNat - (intOf v10).toNat)
  case atStart => exact .mk m b rfl rfl (Nat.le_refl _) (by omega) (Nat.le_refl _) (fun h => absurd h (Nat.lt_irrefl _)) (fun h => absurd h (Nat.lt_irrefl _)) HR.out
  case round =>
    clear HR
    obtain ⟨i, j, rfl, rfl, hi, hij, hj, hI, hJ, hR⟩ := hrel
    have HI := Aside0.mk hI
    have HJ := Aside0.mk hJ
    have HR := Aside0.mk hR
    clear hI hJ hR
    by_cases hlt : i < j
    · obtain ⟨h, hh⟩ : ∃ h, h = (i + j) / 2 := ⟨_, rfl⟩
      have HX := Aside0.mk (show i ≤ h ∧ h < j ∧ (i : Int) < (j : Int) ∧ ((i : Int) + (j : Int)) / 2 = (h : Int) ∧ (h : Int) < (n : Int) ∧ (a : Int) < (n : Int) ∧ h < 9223372036854775808 by have := HMa.out; omega)
      have hal := HMa.out
      obtain ⟨d0, d1, d2, d3⟩ := kq_get HR.out.row h (by omega)
      simp only [encSL] at d1 d2
      obtain ⟨c0, c1, c2, c3⟩ := kq_get HR.out.row a (by omega)
      simp only [encSL] at c1 c2
      have hm1 : at_ xs h ∈ xs := (by have hl := HR.out.len; show xs.getD h zQ ∈ xs; rw [List.getD_eq_getElem?_getD, List.getElem?_eq_getElem (by omega)]; exact List.getElem_mem _)
      have hm0 : at_ xs a ∈ xs := (by have hl := HR.out.len; show xs.getD a zQ ∈ xs; rw [List.getD_eq_getElem?_getD, List.getElem?_eq_getElem (by omega)]; exact List.getElem_mem _)
      have HC := Aside0.mk (fun w' (h : w.grownBy w' (some g)) => HCmp.out w' h _ hm1 _ hm0)
      have HPP := Aside0.mk (show at_ xs h = xs.getD h zQ ∧ at_ xs a = xs.getD a zQ from ⟨rfl, rfl⟩)
      generalize hp1 : xs.getD h zQ = p at *
      generalize hq1 : xs.getD a zQ = q at *
      have HPq := Aside0.mk (show at_ xs h = p ∧ at_ xs a = q from ⟨hp1, hq1⟩)
      rw [HPq.out.1, HPq.out.2] at HC
      clear hp1 hq1 hm1 hm0 HPP hlt hh hal
      have hij2 := HX.out.2.2.1
      have hhi := HX.out.2.2.2.1
      have hhn := HX.out.2.2.2.2.1
      have han := HX.out.2.2.2.2.2.1
      have hwu : IntKind.u64.wrap ((i : Int) + (j : Int)) = (i : Int) + (j : Int) := wraps_u64 _ (by omega) (by omega)
      have hwh : wrap64 (h : Int) = (h : Int) := w64 rfl HX.out.2.2.2.2.2.2
      go_wp2_with fail
      refine start_ (n := 11) (S := fun w' => w'.cell? ⟨g, h * 4, none⟩ = some (.int .i64 p.1) ∧ w'.cell? ⟨g, h * 4 + 1, none⟩ = some (.slice p.2.1.1 p.2.1.2.1 p.2.1.2.2) ∧ w'.cell? ⟨g, h * 4 + 2, none⟩ = some (.slice p.2.2.1.1 p.2.2.1.2.1 p.2.2.1.2.2) ∧ w'.cell? ⟨g, h * 4 + 3, none⟩ = some (.int .u64 p.2.2.2) ∧ w'.cell? ⟨g, a * 4, none⟩ = some (.int .i64 q.1) ∧ w'.cell? ⟨g, a * 4 + 1, none⟩ = some (.slice q.2.1.1 q.2.1.2.1 q.2.1.2.2) ∧ w'.cell? ⟨g, a * 4 + 2, none⟩ = some (.slice q.2.2.1.1 q.2.2.1.2.1 q.2.2.1.2.2) ∧ w'.cell? ⟨g, a * 4 + 3, none⟩ = some (.int .u64 q.2.2.2)) (ds := []) #[false, false, false, false, false, false, false, false, false, false, false] (by kernel_rfl) rfl rfl ⟨d0, d1, d2, d3, c0, c1, c2, c3⟩ (fun hHeld => ?_)
      refine pure_ (i := 0) (N := some 40) (v := ?_) (a' := ?_) #[true, false, false, false, false, false, false, false, false, false, false] rfl rfl (by kernel_rfl) (fun _ _ _ h => h) (Or.inl ⟨by rfl, ?_⟩) ?_ ?_
      rotate_left
      · intro w'
        go_simp
        with_reducible rfl
      rotate_left
      · simp only [Act.put, List.setIfInBounds_toArray, List.set_cons_zero, List.set_cons_succ, i64_w, i32_w]
        rfl
      refine pure_ (i := 1) (N := some 41) (v := ?_) (a' := ?_) #[true, true, false, false, false, false, false, false, false, false, false] rfl rfl (by kernel_rfl) (fun _ _ _ h => h) (Or.inl ⟨by rfl, ?_⟩) ?_ ?_
      rotate_left
      · intro w'
        go_simp
        with_reducible rfl
      rotate_left
      · simp only [Act.put, List.setIfInBounds_toArray, List.set_cons_zero, List.set_cons_succ, i64_w, i32_w]
        rfl
      refine pure_ (i := 2) (N := some 42) (v := ?_) (a' := ?_) #[true, true, true, false, false, false, false, false, false, false, false] rfl rfl (by kernel_rfl) (fun _ _ _ h => h) (Or.inl ⟨by rfl, ?_⟩) ?_ ?_
      rotate_left
      · intro w'
        go_simp
        with_reducible rfl
      rotate_left
      · simp only [Act.put, List.setIfInBounds_toArray, List.set_cons_zero, List.set_cons_succ, i64_w, i32_w]
        rfl
      refine pure_ (i := 3) (N := some 43) (v := ?_) (a' := ?_) #[true, true, true, true, false, false, false, false, false, false, false] rfl rfl (by kernel_rfl) (fun _ _ _ h => h) (Or.inl ⟨by rfl, ?_⟩) ?_ ?_
      rotate_left
      · intro w'
        go_simp
        with_reducible rfl
      rotate_left
      · simp only [Act.put, List.setIfInBounds_toArray, List.set_cons_zero, List.set_cons_succ, i64_w, i32_w]
        rfl
      refine pure_ (i := 5) (N := some 45) (v := ?_) (a' := ?_) #[true, true, true, true, false, true, false, false, false, false, false] rfl rfl (by kernel_rfl) (fun _ _ _ h => h) (Or.inl ⟨by rfl, ?_⟩) ?_ ?_
      rotate_left
      · intro w'
        go_simp
        with_reducible rfl
      rotate_left
      · simp only [Act.put, List.setIfInBounds_toArray, List.set_cons_zero, List.set_cons_succ, i64_w, i32_w]
        rfl
      refine pure_ (i := 6) (N := some 46) (v := ?_) (a' := ?_) #[true, true, true, true, false, true, true, false, false, false, false] rfl rfl (by kernel_rfl) (fun _ _ _ h => h) (Or.inl ⟨by rfl, ?_⟩) ?_ ?_
      rotate_left
      · intro w'
        go_simp
        with_reducible rfl
      rotate_left
      · simp only [Act.put, List.setIfInBounds_toArray, List.set_cons_zero, List.set_cons_succ, i64_w, i32_w]
        rfl
      refine pure_ (i := 7) (N := some 47) (v := ?_) (a' := ?_) #[true, true, true, true, false, true, true, true, false, false, false] rfl rfl (by kernel_rfl) (fun _ _ _ h => h) (Or.inl ⟨by rfl, ?_⟩) ?_ ?_
      rotate_left
      · intro w'
        go_simp
        with_reducible rfl
      rotate_left
      · simp only [Act.put, List.setIfInBounds_toArray, List.set_cons_zero, List.set_cons_succ, i64_w, i32_w]
        rfl
      refine take_ (i := 4) (N := some 44) (v := ?_) (a' := ?_) #[true, true, true, true, true, true, true, true, false, false, false] rfl rfl (by kernel_rfl) (fun _ _ _ h => h) (Or.inl ⟨by rfl, ?_⟩) hHeld ?_ ?_
      rotate_left
      · rintro w' ⟨s0, s1, s2, s3, s4, s5, s6, s7⟩
        go_simp
        with_reducible rfl
      rotate_left
      · simp only [Act.put, List.setIfInBounds_toArray, List.set_cons_zero, List.set_cons_succ, i64_w, i32_w]
        rfl
      refine take_ (i := 8) (N := some 48) (v := ?_) (a' := ?_) #[true, true, true, true, true, true, true, true, true, false, false] rfl rfl (by kernel_rfl) (fun _ _ _ h => h) (Or.inl ⟨by rfl, ?_⟩) hHeld ?_ ?_
      rotate_left
      · rintro w' ⟨s0, s1, s2, s3, s4, s5, s6, s7⟩
        go_simp
        with_reducible rfl
      rotate_left
      · simp only [Act.put, List.setIfInBounds_toArray, List.set_cons_zero, List.set_cons_succ, i64_w, i32_w]
        rfl
      refine one_ (i := 9) (N := some 49) #[true, true, true, true, true, true, true, true, true, true, false] rfl rfl (by kernel_rfl) (by decide) (fun K hK => ?_)
      refine goesv_ HF.out HNm.out HBd.out (#[.agg #[.int .i64 p.1, .slice p.2.1.1 p.2.1.2.1 p.2.1.2.2, .slice p.2.2.1.1 p.2.2.1.2.1 p.2.2.1.2.2, .int .u64 p.2.2.2], .agg #[.int .i64 q.1, .slice q.2.1.1 q.2.1.2.1 q.2.1.2.2, .slice q.2.2.1.1 q.2.2.1.2.1 q.2.2.1.2.2, .int .u64 q.2.2.2]]) (by rfl) rfl rfl rfl (by simp only [List.map_toArray, List.map_cons, List.map_nil]; rfl) ?_
      with_reducible refine (HC.out _ (grown_drew HR.out.grown)).mono ?_
      rintro e w3 ⟨rfl, hb⟩
      refine ⟨_, rfl, ?_⟩
      have hbx := Aside0.mk (below_then (below_drew (Below.refl _ _)) (Nat.le_refl _) hb)
      have HR3 := Aside0.mk (HR.out.below hbx.out)
      clear hb
      refine hK.out _ _ ⟨(pw_cell_below hbx.out d0), (pw_cell_below hbx.out d1), (pw_cell_below hbx.out d2), (pw_cell_below hbx.out d3), (pw_cell_below hbx.out c0), (pw_cell_below hbx.out c1), (pw_cell_below hbx.out c2), (pw_cell_below hbx.out c3)⟩ (fun hHeld => ?_)
      clear hK K
      refine norm_ (a' := ?_) ?_ ?_
      rotate_left
      · show Act.put _ (some 49) _ = _
        simp only [Act.put, List.setIfInBounds_toArray, List.set_cons_zero, List.set_cons_succ, i64_w, i32_w]
        rfl
      refine pure_ (i := 10) (N := some 50) (v := ?_) (a' := ?_) #[true, true, true, true, true, true, true, true, true, true, true] rfl rfl (by kernel_rfl) (fun _ _ _ h => h) (Or.inl ⟨by rfl, ?_⟩) ?_ ?_
      rotate_left
      · intro w'
        go_simp
        with_reducible rfl
      rotate_left
      · simp only [Act.put, List.setIfInBounds_toArray, List.set_cons_zero, List.set_cons_succ, i64_w, i32_w]
        rfl
      refine done_ (by kernel_rfl) ?_
      clear hHeld d0 d1 d2 d3 c0 c1 c2 c3 HR HC hbx
      by_cases hc : cf p q < 0
      · have hcd : decide (cf p q < 0) = true := decide_eq_true hc
        have HCq := Aside0.mk hc
        clear hc
        rw [hcd]
        go_wp2_with fail
        go_roundw
        case rel => exact .mk (h + 1) j (by clear hwu hwh; go_num) rfl (by have := HX.out; clear hwu hwh; omega) (by have := HX.out; clear hwu hwh; omega) hj (fun _ => by rw [Nat.add_sub_cancel, HPq.out.1, HPq.out.2]; exact HCq.out) (fun h => Int.not_lt.2 (HJ.out h)) HR3.out
        case measure => have := HX.out; clear hwu hwh; simp [intOf]; omega
      · have hcd : decide (cf p q < 0) = false := decide_eq_false hc
        have HCq := Aside0.mk hc
        clear hc
        rw [hcd]
        go_wp2_with fail
        go_roundw
        case rel => exact .mk i h rfl rfl hi (by have := HX.out; clear hwu hwh; omega) (by have := HX.out; clear hwu hwh; omega) HI.out (fun _ => by rw [HPq.out.1, HPq.out.2]; exact HCq.out) HR3.out
        case measure => have := HX.out; clear hwu hwh; simp [intOf]; omega
    · obtain rfl : i = j := by omega
      have t3 : decide (i < i) = false := decide_eq_false (by omega)
      clear hlt
      have HIb := Aside0.mk (show m ≤ i ∧ i ≤ b ∧ m = a + 1 from ⟨hi, hj, HM.out⟩)
      have hw1 : wrap64 ((i : Int) - 1) = ((i - 1 : Nat) : Int) := w64 (by have := HM.out; omega) (by have := HM.out; omega)
      go_wp2_with fail
      go_loopw [13] (fun v13 w' => RelB w base ok g n c xs a (i - 1) v13 w') (fun v13 _ => i - (intOf v13).toNat)
      case atStart => exact .mk a xs rfl (Nat.le_refl _) (by have := HM.out; clear hw1; omega) HR.out (rot_none2 a (a + 1) _).symm
      case round =>
        clear HR
        obtain ⟨k, ys, rfl, hak, hki, hR, hS⟩ := hrel
        have HR := Aside0.mk hR
        have HS := Aside0.mk hS
        clear hR hS
        by_cases hk : k < i - 1
        · obtain ⟨y, hy⟩ : ∃ y, y = k + 1 := ⟨_, rfl⟩
          have HKb := Aside0.mk (show y = k + 1 ∧ y < i ∧ (k : Int) < (i : Int) - 1 ∧ (k : Int) + 1 = (y : Int) ∧ y < 9223372036854775808 ∧ (k : Int) < (n : Int) ∧ (y : Int) < (n : Int) ∧ ¬ k = y ∧ ¬ y = k by have := HM.out; clear hw1; omega)
          obtain ⟨d0, d1, d2, d3⟩ := kq_get HR.out.row k (by omega)
          simp only [encSL] at d1 d2
          obtain ⟨c0, c1, c2, c3⟩ := kq_get HR.out.row y (by omega)
          simp only [encSL] at c1 c2
          have HSw := Aside0.mk (RS.swap2 HR.out k y (by omega) (by omega) (by omega) _ _ rfl rfl)
          have HS2 := Aside0.mk (show swapF k y 1 (at_ ys) = rotF a (a + 1) (k + 1 + 1) (at_ xs) by rw [HS.out, hy]; exact rot_right a k _ hak)
          obtain ⟨cs3, hcs3⟩ := Kd.R_typed HR.out.row g rfl
          have hfz : ∀ o, wr.frozen? ⟨g, o, none⟩ = false := fun o => blk_frozen hcs3 o
          generalize hp1 : ys.getD k zQ = p at *
          generalize hq1 : ys.getD y zQ = q at *
          clear hp1 hq1
          have hkn := HKb.out.2.2.2.2.2.1
          have hyn := HKb.out.2.2.2.2.2.2.1
          have hxy := HKb.out.2.2.2.2.2.2.2.1
          have hyx := HKb.out.2.2.2.2.2.2.2.2
          have hki2 := HKb.out.2.2.1
          have hki3 : decide ((k : Int) < (i : Int) - 1) = true := decide_eq_true hki2
          have HAk := Aside0.mk hak
          clear hy hk hak hki
          have hwy : wrap64 ((k : Int) + 1) = (y : Int) := w64 HKb.out.2.2.2.1 HKb.out.2.2.2.2.1
          go_wp2_with fail
          refine start_ (n := 18) (S := fun w' => w'.cell? ⟨g, y * 4, none⟩ = some (.int .i64 q.1) ∧ w'.cell? ⟨g, y * 4 + 1, none⟩ = some (.slice q.2.1.1 q.2.1.2.1 q.2.1.2.2) ∧ w'.cell? ⟨g, y * 4 + 2, none⟩ = some (.slice q.2.2.1.1 q.2.2.1.2.1 q.2.2.1.2.2) ∧ w'.cell? ⟨g, y * 4 + 3, none⟩ = some (.int .u64 q.2.2.2) ∧ w'.cell? ⟨g, k * 4, none⟩ = some (.int .i64 p.1) ∧ w'.cell? ⟨g, k * 4 + 1, none⟩ = some (.slice p.2.1.1 p.2.1.2.1 p.2.1.2.2) ∧ w'.cell? ⟨g, k * 4 + 2, none⟩ = some (.slice p.2.2.1.1 p.2.2.1.2.1 p.2.2.1.2.2) ∧ w'.cell? ⟨g, k * 4 + 3, none⟩ = some (.int .u64 p.2.2.2) ∧ ∀ o, w'.frozen? ⟨g, o, none⟩ = false) (ds := [15, 17]) #[false, false, false, false, false, false, false, false, false, false, false, false, false, false, false, false, false, false] (by kernel_rfl) rfl rfl ⟨c0, c1, c2, c3, d0, d1, d2, d3, hfz⟩ (fun hHeld => ?_)
          refine pure_ (i := 0) (N := some 61) (v := ?_) (a' := ?_) #[true, false, false, false, false, false, false, false, false, false, false, false, false, false, false, false, false, false] rfl rfl (by kernel_rfl) (fun _ _ _ h => h) (Or.inl ⟨by rfl, ?_⟩) ?_ ?_
          rotate_left
          · intro w'
            go_simp
            with_reducible rfl
          rotate_left
          · simp only [Act.put, List.setIfInBounds_toArray, List.set_cons_zero, List.set_cons_succ, i64_w, i32_w]
            rfl
          refine pure_ (i := 1) (N := some 62) (v := ?_) (a' := ?_) #[true, true, false, false, false, false, false, false, false, false, false, false, false, false, false, false, false, false] rfl rfl (by kernel_rfl) (fun _ _ _ h => h) (Or.inl ⟨by rfl, ?_⟩) ?_ ?_
          rotate_left
          · intro w'
            go_simp
            with_reducible rfl
          rotate_left
          · simp only [Act.put, List.setIfInBounds_toArray, List.set_cons_zero, List.set_cons_succ, i64_w, i32_w]
            rfl
          refine pure_ (i := 2) (N := some 63) (v := ?_) (a' := ?_) #[true, true, true, false, false, false, false, false, false, false, false, false, false, false, false, false, false, false] rfl rfl (by kernel_rfl) (fun _ _ _ h => h) (Or.inl ⟨by rfl, ?_⟩) ?_ ?_
          rotate_left
          · intro w'
            go_simp
            with_reducible rfl
          rotate_left
          · simp only [Act.put, List.setIfInBounds_toArray, List.set_cons_zero, List.set_cons_succ, i64_w, i32_w]
            rfl
          refine pure_ (i := 3) (N := some 64) (v := ?_) (a' := ?_) #[true, true, true, true, false, false, false, false, false, false, false, false, false, false, false, false, false, false] rfl rfl (by kernel_rfl) (fun _ _ _ h => h) (Or.inl ⟨by rfl, ?_⟩) ?_ ?_
          rotate_left
          · intro w'
            go_simp
            with_reducible rfl
          rotate_left
          · simp only [Act.put, List.setIfInBounds_toArray, List.set_cons_zero, List.set_cons_succ, i64_w, i32_w]
            rfl
          refine pure_ (i := 4) (N := some 65) (v := ?_) (a' := ?_) #[true, true, true, true, true, false, false, false, false, false, false, false, false, false, false, false, false, false] rfl rfl (by kernel_rfl) (fun _ _ _ h => h) (Or.inl ⟨by rfl, ?_⟩) ?_ ?_
          rotate_left
          · intro w'
            go_simp
            with_reducible rfl
          rotate_left
          · simp only [Act.put, List.setIfInBounds_toArray, List.set_cons_zero, List.set_cons_succ, i64_w, i32_w]
            rfl
          refine pure_ (i := 5) (N := some 66) (v := ?_) (a' := ?_) #[true, true, true, true, true, true, false, false, false, false, false, false, false, false, false, false, false, false] rfl rfl (by kernel_rfl) (fun _ _ _ h => h) (Or.inl ⟨by rfl, ?_⟩) ?_ ?_
          rotate_left
          · intro w'
            go_simp
            with_reducible rfl
          rotate_left
          · simp only [Act.put, List.setIfInBounds_toArray, List.set_cons_zero, List.set_cons_succ, i64_w, i32_w]
            rfl
          refine pure_ (i := 6) (N := some 67) (v := ?_) (a' := ?_) #[true, true, true, true, true, true, true, false, false, false, false, false, false, false, false, false, false, false] rfl rfl (by kernel_rfl) (fun _ _ _ h => h) (Or.inl ⟨by rfl, ?_⟩) ?_ ?_
          rotate_left
          · intro w'
            go_simp
            with_reducible rfl
          rotate_left
          · simp only [Act.put, List.setIfInBounds_toArray, List.set_cons_zero, List.set_cons_succ, i64_w, i32_w]
            rfl
          refine pure_ (i := 7) (N := some 68) (v := ?_) (a' := ?_) #[true, true, true, true, true, true, true, true, false, false, false, false, false, false, false, false, false, false] rfl rfl (by kernel_rfl) (fun _ _ _ h => h) (Or.inl ⟨by rfl, ?_⟩) ?_ ?_
          rotate_left
          · intro w'
            go_simp
            with_reducible rfl
          rotate_left
          · simp only [Act.put, List.setIfInBounds_toArray, List.set_cons_zero, List.set_cons_succ, i64_w, i32_w]
            rfl
          refine pure_ (i := 8) (N := some 69) (v := ?_) (a' := ?_) #[true, true, true, true, true, true, true, true, true, false, false, false, false, false, false, false, false, false] rfl rfl (by kernel_rfl) (fun _ _ _ h => h) (Or.inl ⟨by rfl, ?_⟩) ?_ ?_
          rotate_left
          · intro w'
            go_simp
            with_reducible rfl
          rotate_left
          · simp only [Act.put, List.setIfInBounds_toArray, List.set_cons_zero, List.set_cons_succ, i64_w, i32_w]
            rfl
          refine pure_ (i := 10) (N := some 71) (v := ?_) (a' := ?_) #[true, true, true, true, true, true, true, true, true, false, true, false, false, false, false, false, false, false] rfl rfl (by kernel_rfl) (fun _ _ _ h => h) (Or.inl ⟨by rfl, ?_⟩) ?_ ?_
          rotate_left
          · intro w'
            go_simp
            with_reducible rfl
          rotate_left
          · simp only [Act.put, List.setIfInBounds_toArray, List.set_cons_zero, List.set_cons_succ, i64_w, i32_w]
            rfl
          refine pure_ (i := 11) (N := some 72) (v := ?_) (a' := ?_) #[true, true, true, true, true, true, true, true, true, false, true, true, false, false, false, false, false, false] rfl rfl (by kernel_rfl) (fun _ _ _ h => h) (Or.inl ⟨by rfl, ?_⟩) ?_ ?_
          rotate_left
          · intro w'
            go_simp
            with_reducible rfl
          rotate_left
          · simp only [Act.put, List.setIfInBounds_toArray, List.set_cons_zero, List.set_cons_succ, i64_w, i32_w]
            rfl
          refine pure_ (i := 12) (N := some 73) (v := ?_) (a' := ?_) #[true, true, true, true, true, true, true, true, true, false, true, true, true, false, false, false, false, false] rfl rfl (by kernel_rfl) (fun _ _ _ h => h) (Or.inl ⟨by rfl, ?_⟩) ?_ ?_
          rotate_left
          · intro w'
            go_simp
            with_reducible rfl
          rotate_left
          · simp only [Act.put, List.setIfInBounds_toArray, List.set_cons_zero, List.set_cons_succ, i64_w, i32_w]
            rfl
          refine take_ (i := 9) (N := some 70) (v := ?_) (a' := ?_) #[true, true, true, true, true, true, true, true, true, true, true, true, true, false, false, false, false, false] rfl rfl (by kernel_rfl) (fun _ _ _ h => h) (Or.inl ⟨by rfl, ?_⟩) hHeld ?_ ?_
          rotate_left
          · rintro w' ⟨s0, s1, s2, s3, s4, s5, s6, s7, s8⟩
            go_simp
            with_reducible rfl
          rotate_left
          · simp only [Act.put, List.setIfInBounds_toArray, List.set_cons_zero, List.set_cons_succ, i64_w, i32_w]
            rfl
          refine take_ (i := 13) (N := some 74) (v := ?_) (a' := ?_) #[true, true, true, true, true, true, true, true, true, true, true, true, true, true, false, false, false, false] rfl rfl (by kernel_rfl) (fun _ _ _ h => h) (Or.inl ⟨by rfl, ?_⟩) hHeld ?_ ?_
          rotate_left
          · rintro w' ⟨s0, s1, s2, s3, s4, s5, s6, s7, s8⟩
            go_simp
            with_reducible rfl
          rotate_left
          · simp only [Act.put, List.setIfInBounds_toArray, List.set_cons_zero, List.set_cons_succ, i64_w, i32_w]
            rfl
          refine pure_ (i := 14) (N := some 75) (v := ?_) (a' := ?_) #[true, true, true, true, true, true, true, true, true, true, true, true, true, true, true, false, false, false] rfl rfl (by kernel_rfl) (fun _ _ _ h => h) (Or.inl ⟨by rfl, ?_⟩) ?_ ?_
          rotate_left
          · intro w'
            go_simp
            with_reducible rfl
          rotate_left
          · simp only [Act.put, List.setIfInBounds_toArray, List.set_cons_zero, List.set_cons_succ, i64_w, i32_w]
            rfl
          refine last_ (i := 15) (N := none) #[true, true, true, true, true, true, true, true, true, true, true, true, true, true, true, true, false, false] rfl rfl (by kernel_rfl) (by decide) (fun K hK => ?_)
          refine skip_ (w1 := ?_) (by rfl) rfl ?_ ?_
          rotate_left
          · go_simp
            rfl
          refine hK.out _ _ ?_
          clear hK K
          refine pure_ (i := 16) (N := some 76) (v := ?_) (a' := ?_) #[true, true, true, true, true, true, true, true, true, true, true, true, true, true, true, true, true, false] rfl rfl (by kernel_rfl) (fun _ _ _ h => h) (Or.inl ⟨by rfl, ?_⟩) ?_ ?_
          rotate_left
          · intro w'
            go_simp
            with_reducible rfl
          rotate_left
          · simp only [Act.put, List.setIfInBounds_toArray, List.set_cons_zero, List.set_cons_succ, i64_w, i32_w]
            rfl
          refine last_ (i := 17) (N := none) #[true, true, true, true, true, true, true, true, true, true, true, true, true, true, true, true, true, true] rfl rfl (by kernel_rfl) (by decide) (fun K hK => ?_)
          refine skip_ (w1 := ?_) (by rfl) rfl ?_ ?_
          rotate_left
          · go_simp
            rfl
          refine hK.out _ _ ?_
          clear hK K
          refine done_ (by kernel_rfl) ?_
          have HR4 := Aside0.mk HSw.out.1.drew
          have HS4 := Aside0.mk (HSw.out.2.trans HS2.out)
          clear HR HSw HS HS2 hHeld hcs3 hfz d0 d1 d2 d3 c0 c1 c2 c3
          generalize World.drew _ = w4 at *
          go_wp2_with fail
          go_roundw
          case rel => exact .mk (k + 1) _ (by have := HKb.out; first | (rw [hwy]; clear hwy hw1; go_num) | (clear hwy hw1; go_num)) (by have := HKb.out; have := HAk.out; clear hwy hw1; omega) (by have := HKb.out; clear hwy hw1; omega) HR4.out HS4.out
          case measure => have := HKb.out; first | (rw [hwy]; clear hwy hw1; simp [intOf]; omega) | (clear hwy hw1; simp [intOf]; omega)
        · have e0 : k + 1 = i := by have := HM.out; clear hw1; omega
          have hk2 : decide ((k : Int) < (i : Int) - 1) = false := decide_eq_false (by omega)
          have hk3 : decide (k < i - 1) = false := decide_eq_false hk
          have HE := Aside0.mk e0
          clear hk e0
          go_wp2_with fail
          (try simp only [Exit.inBlock, Exit.then]); refine bodyPost_ret (results_none rfl _ _ _) rfl ?_
          rw [HE.out] at HS
          refine ⟨rfl, ys, HR.out, ?_, ?_⟩
          · rw [HS.out]; have := HM.out; clear hw1; exact (rot_in (by omega) (by omega)).wide (Nat.le_refl _) (by omega)
          · rw [HS.out, ← HM.out]; have := HM.out; clear hw1; exact sym_leaf HP.out H1.out H2.out (Nat.le_refl _) (by omega) (by omega) (by omega) (fun h => absurd h (Nat.lt_irrefl _)) (fun _ h => HP.out.asym _ _ (HI.out h)) (fun _ h => by rw [show m - 1 = a by have := HM.out; omega]; exact Int.not_lt.2 (HJ.out h)) (fun h => absurd h (Nat.lt_irrefl _))
end Go.Proofs.Ytfeeahjaeapkoaa.Ext
end

section
namespace Go.Proofs.Ytfeeahjaeapkoaa.Ext
set_option linter.unusedVariables false
set_option linter.unusedSimpArgs false
open Go.RowKit Go.Proofs.YtfeeahjaeapkoaaW.PrintWords Go.Proofs.YtfeeahjaeapkoaaW.PrintLast Go.Proofs.YtfeeahjaeapkoaaW.PrintMore Go.Proofs.Ytfeeahjaeapkoaa.Lib
set_option maxRecDepth 100000 in
set_option maxHeartbeats 3200000 in
theorem sym2_calls (cf : Q → Q → Int) (hp : Pre cf) (f : FuncId) (fn : Func) (hf : Try.prog.funcs[f]? = some fn) (hname : (fn.name == "runtime.NumGoroutine") = false) (hbody : fn.body.isSome = true) (g c n : Nat) (base : Nat) (ok : Nat → Prop) (hn : n ≤ 1152921504606846976) (a m b : Nat) (xs : List Q) (w : World)
    (hrow : kq.R 40 w base ok (.slice (some ⟨g, 0, none⟩) n c) xs) (hcmp : CmpOk f cf w g xs) (h1 : SrtOn cf (at_ xs) a m) (h2 : SrtOn cf (at_ xs) m b) (hma : a + 1 < m) (hbm : b = m + 1) (hb : b ≤ n) :
    Calls Try.prog 58 #[.slice (some ⟨g, 0, none⟩) n c, .int .i64 a, .int .i64 m, .int .i64 b, .func (.func f) #[] #[]] w fun e w' => e = .returned (.tuple #[]) ∧ ∃ ys, RS w w' base ok g n c xs ys ∧ In a b (at_ xs) (at_ ys) ∧ SrtOn cf (at_ ys) a b := by
  have HF := Aside0.mk hf
  have HNm := Aside0.mk hname
  have HBd := Aside0.mk hbody
  have HCmp := Aside0.mk hcmp
  have HP := Aside0.mk hp
  have H1 := Aside0.mk h1
  have H2 := Aside0.mk h2
  have HR := Aside0.mk (RS.refl hrow)
  clear hf hname hbody hcmp hrow hp h1 h2
  have t1 : (((m : Int) - (a : Int)) == 1) = false := beq_eq_false_iff_ne.2 (by omega)
  have t2 : (b : Int) - (m : Int) = 1 := by omega
  have HM := Aside0.mk hbm
  have HMa := Aside0.mk (show m < n ∧ a < m by omega)
  clear hbm
  go_enter Try.func58, Try.ntmps58
  go_wp2_with fail
  go_loopw [14, 15] (fun v14 v15 w' => RelA2 cf w base ok g n c xs a m m v14 v15 w') (fun v14 v15 _ => (intOf v15).toNat - (intOf v14).toNat)
  case atStart => exact .mk a m rfl rfl (Nat.le_refl _) (by omega) (Nat.le_refl _) (fun h => absurd h (Nat.lt_irrefl _)) (fun h => absurd h (Nat.lt_irrefl _)) HR.out
  case round =>
    clear HR
    obtain ⟨i, j, rfl, rfl, hi, hij, hj, hI, hJ, hR⟩ := hrel
    have HI := Aside0.mk hI
    have HJ := Aside0.mk hJ
    have HR := Aside0.mk hR
    clear hI hJ hR
    by_cases hlt : i < j
    · obtain ⟨h, hh⟩ : ∃ h, h = (i + j) / 2 := ⟨_, rfl⟩
      have HX := Aside0.mk (show i ≤ h ∧ h < j ∧ (i : Int) < (j : Int) ∧ ((i : Int) + (j : Int)) / 2 = (h : Int) ∧ (h : Int) < (n : Int) ∧ (m : Int) < (n : Int) ∧ h < 9223372036854775808 by have := HMa.out; omega)
      have hal := HMa.out
      obtain ⟨d0, d1, d2, d3⟩ := kq_get HR.out.row m (by omega)
      simp only [encSL] at d1 d2
      obtain ⟨c0, c1, c2, c3⟩ := kq_get HR.out.row h (by omega)
      simp only [encSL] at c1 c2
      have hm1 : at_ xs m ∈ xs := (by have hl := HR.out.len; show xs.getD m zQ ∈ xs; rw [List.getD_eq_getElem?_getD, List.getElem?_eq_getElem (by omega)]; exact List.getElem_mem _)
      have hm0 : at_ xs h ∈ xs := (by have hl := HR.out.len; show xs.getD h zQ ∈ xs; rw [List.getD_eq_getElem?_getD, List.getElem?_eq_getElem (by omega)]; exact List.getElem_mem _)
      have HC := Aside0.mk (fun w' (h : w.grownBy w' (some g)) => HCmp.out w' h _ hm1 _ hm0)
      generalize hp1 : xs.getD m zQ = p at *
      generalize hq1 : xs.getD h zQ = q at *
      have HPq := Aside0.mk (show at_ xs m = p ∧ at_ xs h = q from ⟨hp1, hq1⟩)
      rw [HPq.out.1, HPq.out.2] at HC
      clear hp1 hq1 hm1 hm0 hlt hh hal
      have hij2 := HX.out.2.2.1
      have hhi := HX.out.2.2.2.1
      have hhn := HX.out.2.2.2.2.1
      have han := HX.out.2.2.2.2.2.1
      have hwu : IntKind.u64.wrap ((i : Int) + (j : Int)) = (i : Int) + (j : Int) := wraps_u64 _ (by omega) (by omega)
      have hwh : wrap64 (h : Int) = (h : Int) := w64 rfl HX.out.2.2.2.2.2.2
      go_wp2_with fail
      refine start_ (n := 12) (S := fun w' => w'.cell? ⟨g, m * 4, none⟩ = some (.int .i64 p.1) ∧ w'.cell? ⟨g, m * 4 + 1, none⟩ = some (.slice p.2.1.1 p.2.1.2.1 p.2.1.2.2) ∧ w'.cell? ⟨g, m * 4 + 2, none⟩ = some (.slice p.2.2.1.1 p.2.2.1.2.1 p.2.2.1.2.2) ∧ w'.cell? ⟨g, m * 4 + 3, none⟩ = some (.int .u64 p.2.2.2) ∧ w'.cell? ⟨g, h * 4, none⟩ = some (.int .i64 q.1) ∧ w'.cell? ⟨g, h * 4 + 1, none⟩ = some (.slice q.2.1.1 q.2.1.2.1 q.2.1.2.2) ∧ w'.cell? ⟨g, h * 4 + 2, none⟩ = some (.slice q.2.2.1.1 q.2.2.1.2.1 q.2.2.1.2.2) ∧ w'.cell? ⟨g, h * 4 + 3, none⟩ = some (.int .u64 q.2.2.2)) (ds := []) #[false, false, false, false, false, false, false, false, false, false, false, false] (by kernel_rfl) rfl rfl ⟨d0, d1, d2, d3, c0, c1, c2, c3⟩ (fun hHeld => ?_)
      refine pure_ (i := 0) (N := some 92) (v := ?_) (a' := ?_) #[true, false, false, false, false, false, false, false, false, false, false, false] rfl rfl (by kernel_rfl) (fun _ _ _ h => h) (Or.inl ⟨by rfl, ?_⟩) ?_ ?_
      rotate_left
      · intro w'
        go_simp
        with_reducible rfl
      rotate_left
      · simp only [Act.put, List.setIfInBounds_toArray, List.set_cons_zero, List.set_cons_succ, i64_w, i32_w]
        rfl
      refine pure_ (i := 1) (N := some 93) (v := ?_) (a' := ?_) #[true, true, false, false, false, false, false, false, false, false, false, false] rfl rfl (by kernel_rfl) (fun _ _ _ h => h) (Or.inl ⟨by rfl, ?_⟩) ?_ ?_
      rotate_left
      · intro w'
        go_simp
        with_reducible rfl
      rotate_left
      · simp only [Act.put, List.setIfInBounds_toArray, List.set_cons_zero, List.set_cons_succ, i64_w, i32_w]
        rfl
      refine pure_ (i := 2) (N := some 94) (v := ?_) (a' := ?_) #[true, true, true, false, false, false, false, false, false, false, false, false] rfl rfl (by kernel_rfl) (fun _ _ _ h => h) (Or.inl ⟨by rfl, ?_⟩) ?_ ?_
      rotate_left
      · intro w'
        go_simp
        with_reducible rfl
      rotate_left
      · simp only [Act.put, List.setIfInBounds_toArray, List.set_cons_zero, List.set_cons_succ, i64_w, i32_w]
        rfl
      refine pure_ (i := 3) (N := some 95) (v := ?_) (a' := ?_) #[true, true, true, true, false, false, false, false, false, false, false, false] rfl rfl (by kernel_rfl) (fun _ _ _ h => h) (Or.inl ⟨by rfl, ?_⟩) ?_ ?_
      rotate_left
      · intro w'
        go_simp
        with_reducible rfl
      rotate_left
      · simp only [Act.put, List.setIfInBounds_toArray, List.set_cons_zero, List.set_cons_succ, i64_w, i32_w]
        rfl
      refine pure_ (i := 5) (N := some 97) (v := ?_) (a' := ?_) #[true, true, true, true, false, true, false, false, false, false, false, false] rfl rfl (by kernel_rfl) (fun _ _ _ h => h) (Or.inl ⟨by rfl, ?_⟩) ?_ ?_
      rotate_left
      · intro w'
        go_simp
        with_reducible rfl
      rotate_left
      · simp only [Act.put, List.setIfInBounds_toArray, List.set_cons_zero, List.set_cons_succ, i64_w, i32_w]
        rfl
      refine pure_ (i := 6) (N := some 98) (v := ?_) (a' := ?_) #[true, true, true, true, false, true, true, false, false, false, false, false] rfl rfl (by kernel_rfl) (fun _ _ _ h => h) (Or.inl ⟨by rfl, ?_⟩) ?_ ?_
      rotate_left
      · intro w'
        go_simp
        with_reducible rfl
      rotate_left
      · simp only [Act.put, List.setIfInBounds_toArray, List.set_cons_zero, List.set_cons_succ, i64_w, i32_w]
        rfl
      refine pure_ (i := 7) (N := some 99) (v := ?_) (a' := ?_) #[true, true, true, true, false, true, true, true, false, false, false, false] rfl rfl (by kernel_rfl) (fun _ _ _ h => h) (Or.inl ⟨by rfl, ?_⟩) ?_ ?_
      rotate_left
      · intro w'
        go_simp
        with_reducible rfl
      rotate_left
      · simp only [Act.put, List.setIfInBounds_toArray, List.set_cons_zero, List.set_cons_succ, i64_w, i32_w]
        rfl
      refine take_ (i := 4) (N := some 96) (v := ?_) (a' := ?_) #[true, true, true, true, true, true, true, true, false, false, false, false] rfl rfl (by kernel_rfl) (fun _ _ _ h => h) (Or.inl ⟨by rfl, ?_⟩) hHeld ?_ ?_
      rotate_left
      · rintro w' ⟨s0, s1, s2, s3, s4, s5, s6, s7⟩
        go_simp
        with_reducible rfl
      rotate_left
      · simp only [Act.put, List.setIfInBounds_toArray, List.set_cons_zero, List.set_cons_succ, i64_w, i32_w]
        rfl
      refine take_ (i := 8) (N := some 100) (v := ?_) (a' := ?_) #[true, true, true, true, true, true, true, true, true, false, false, false] rfl rfl (by kernel_rfl) (fun _ _ _ h => h) (Or.inl ⟨by rfl, ?_⟩) hHeld ?_ ?_
      rotate_left
      · rintro w' ⟨s0, s1, s2, s3, s4, s5, s6, s7⟩
        go_simp
        with_reducible rfl
      rotate_left
      · simp only [Act.put, List.setIfInBounds_toArray, List.set_cons_zero, List.set_cons_succ, i64_w, i32_w]
        rfl
      refine one_ (i := 9) (N := some 101) #[true, true, true, true, true, true, true, true, true, true, false, false] rfl rfl (by kernel_rfl) (by decide) (fun K hK => ?_)
      refine goesv_ HF.out HNm.out HBd.out (#[.agg #[.int .i64 p.1, .slice p.2.1.1 p.2.1.2.1 p.2.1.2.2, .slice p.2.2.1.1 p.2.2.1.2.1 p.2.2.1.2.2, .int .u64 p.2.2.2], .agg #[.int .i64 q.1, .slice q.2.1.1 q.2.1.2.1 q.2.1.2.2, .slice q.2.2.1.1 q.2.2.1.2.1 q.2.2.1.2.2, .int .u64 q.2.2.2]]) (by rfl) rfl rfl rfl (by simp only [List.map_toArray, List.map_cons, List.map_nil]; rfl) ?_
      with_reducible refine (HC.out _ (grown_drew HR.out.grown)).mono ?_
      rintro e w3 ⟨rfl, hb⟩
      refine ⟨_, rfl, ?_⟩
      have hbx := Aside0.mk (below_then (below_drew (Below.refl _ _)) (Nat.le_refl _) hb)
      have HR3 := Aside0.mk (HR.out.below hbx.out)
      clear hb
      refine hK.out _ _ ⟨(pw_cell_below hbx.out d0), (pw_cell_below hbx.out d1), (pw_cell_below hbx.out d2), (pw_cell_below hbx.out d3), (pw_cell_below hbx.out c0), (pw_cell_below hbx.out c1), (pw_cell_below hbx.out c2), (pw_cell_below hbx.out c3)⟩ (fun hHeld => ?_)
      clear hK K
      refine norm_ (a' := ?_) ?_ ?_
      rotate_left
      · show Act.put _ (some 101) _ = _
        simp only [Act.put, List.setIfInBounds_toArray, List.set_cons_zero, List.set_cons_succ, i64_w, i32_w]
        rfl
      refine pure_ (i := 10) (N := some 102) (v := ?_) (a' := ?_) #[true, true, true, true, true, true, true, true, true, true, true, false] rfl rfl (by kernel_rfl) (fun _ _ _ h => h) (Or.inl ⟨by rfl, ?_⟩) ?_ ?_
      rotate_left
      · intro w'
        go_simp
        with_reducible rfl
      rotate_left
      · simp only [Act.put, List.setIfInBounds_toArray, List.set_cons_zero, List.set_cons_succ, i64_w, i32_w]
        rfl
      refine pure_ (i := 11) (N := some 103) (v := ?_) (a' := ?_) #[true, true, true, true, true, true, true, true, true, true, true, true] rfl rfl (by kernel_rfl) (fun _ _ _ h => h) (Or.inl ⟨by rfl, ?_⟩) ?_ ?_
      rotate_left
      · intro w'
        go_simp
        with_reducible rfl
      rotate_left
      · simp only [Act.put, List.setIfInBounds_toArray, List.set_cons_zero, List.set_cons_succ, i64_w, i32_w]
        rfl
      refine done_ (by kernel_rfl) ?_
      clear hHeld d0 d1 d2 d3 c0 c1 c2 c3 HR HC hbx
      by_cases hc : cf p q < 0
      · have hcd : decide (cf p q < 0) = true := decide_eq_true hc
        have hcd2 : decide (0 ≤ cf p q) = false := decide_eq_false (Int.not_le.2 hc)
        have HCq := Aside0.mk hc
        clear hc
        rw [hcd]; simp only [Bool.not_true, Bool.not_false]
        go_wp2_with fail
        go_roundw
        case rel => exact .mk i h rfl rfl hi (by have := HX.out; clear hwu hwh; omega) (by have := HX.out; clear hwu hwh; omega) (fun h => Int.not_lt.2 (HI.out h)) (fun _ => by rw [HPq.out.1, HPq.out.2]; exact HCq.out) HR3.out
        case measure => have := HX.out; clear hwu hwh; simp [intOf]; omega
      · have hcd : decide (cf p q < 0) = false := decide_eq_false hc
        have hcd2 : decide (0 ≤ cf p q) = true := decide_eq_true (Int.not_lt.1 hc)
        have HCq := Aside0.mk (Int.not_lt.1 hc)
        clear hc
        rw [hcd]; simp only [Bool.not_true, Bool.not_false]
        go_wp2_with fail
        go_roundw
        case rel => exact .mk (h + 1) j (by clear hwu hwh; go_num) rfl (by have := HX.out; clear hwu hwh; omega) (by have := HX.out; clear hwu hwh; omega) hj (fun _ => by rw [Nat.add_sub_cancel, HPq.out.1, HPq.out.2]; exact Int.not_lt.2 HCq.out) HJ.out HR3.out
        case measure => have := HX.out; clear hwu hwh; simp [intOf]; omega
    · obtain rfl : i = j := by omega
      have t3 : decide (i < i) = false := decide_eq_false (by omega)
      clear hlt
      have HIb := Aside0.mk (show a ≤ i ∧ i ≤ m ∧ b = m + 1 ∧ m < n from ⟨hi, hj, HM.out, HMa.out.1⟩)
      go_wp2_with fail
      go_loopw [17] (fun v17 w' => RelB2 w base ok g n c xs i m v17 w') (fun v17 _ => (intOf v17).toNat)
      case atStart => exact .mk m xs rfl hj (Nat.le_refl _) HR.out (rot_none1 m (m + 1) _).symm
      case round =>
        clear HR
        obtain ⟨k, ys, rfl, hak, hki, hR, hS⟩ := hrel
        have HR := Aside0.mk hR
        have HS := Aside0.mk hS
        clear hR hS
        by_cases hk : i < k
        · obtain ⟨y, hy⟩ : ∃ y, k = y + 1 := ⟨k - 1, by omega⟩
          have HKb := Aside0.mk (show k = y + 1 ∧ i ≤ y ∧ (i : Int) < (k : Int) ∧ (k : Int) - 1 = (y : Int) ∧ y < 9223372036854775808 ∧ (k : Int) < (n : Int) ∧ (y : Int) < (n : Int) ∧ ¬ k = y ∧ ¬ y = k by have := HMa.out; omega)
          have hmn := HMa.out
          obtain ⟨d0, d1, d2, d3⟩ := kq_get HR.out.row k (by omega)
          simp only [encSL] at d1 d2
          obtain ⟨c0, c1, c2, c3⟩ := kq_get HR.out.row y (by omega)
          simp only [encSL] at c1 c2
          have HSw := Aside0.mk (RS.swap2 HR.out k y (by omega) (by omega) (by omega) _ _ rfl rfl)
          have HS2 := Aside0.mk (show swapF k y 1 (at_ ys) = rotF y m (m + 1) (at_ xs) by rw [HS.out, hy]; exact rot_left y m _ (by omega))
          obtain ⟨cs3, hcs3⟩ := Kd.R_typed HR.out.row g rfl
          have hfz : ∀ o, wr.frozen? ⟨g, o, none⟩ = false := fun o => blk_frozen hcs3 o
          generalize hp1 : ys.getD k zQ = p at *
          generalize hq1 : ys.getD y zQ = q at *
          clear hp1 hq1
          have hkn := HKb.out.2.2.2.2.2.1
          have hyn := HKb.out.2.2.2.2.2.2.1
          have hxy := HKb.out.2.2.2.2.2.2.2.1
          have hyx := HKb.out.2.2.2.2.2.2.2.2
          have hki2 := HKb.out.2.2.1
          have HAk := Aside0.mk hki
          clear hy hk hak hki hmn
          have hwy : wrap64 ((k : Int) - 1) = (y : Int) := w64 HKb.out.2.2.2.1 HKb.out.2.2.2.2.1
          go_wp2_with fail
          refine start_ (n := 18) (S := fun w' => w'.cell? ⟨g, y * 4, none⟩ = some (.int .i64 q.1) ∧ w'.cell? ⟨g, y * 4 + 1, none⟩ = some (.slice q.2.1.1 q.2.1.2.1 q.2.1.2.2) ∧ w'.cell? ⟨g, y * 4 + 2, none⟩ = some (.slice q.2.2.1.1 q.2.2.1.2.1 q.2.2.1.2.2) ∧ w'.cell? ⟨g, y * 4 + 3, none⟩ = some (.int .u64 q.2.2.2) ∧ w'.cell? ⟨g, k * 4, none⟩ = some (.int .i64 p.1) ∧ w'.cell? ⟨g, k * 4 + 1, none⟩ = some (.slice p.2.1.1 p.2.1.2.1 p.2.1.2.2) ∧ w'.cell? ⟨g, k * 4 + 2, none⟩ = some (.slice p.2.2.1.1 p.2.2.1.2.1 p.2.2.1.2.2) ∧ w'.cell? ⟨g, k * 4 + 3, none⟩ = some (.int .u64 p.2.2.2) ∧ ∀ o, w'.frozen? ⟨g, o, none⟩ = false) (ds := [15, 17]) #[false, false, false, false, false, false, false, false, false, false, false, false, false, false, false, false, false, false] (by kernel_rfl) rfl rfl ⟨c0, c1, c2, c3, d0, d1, d2, d3, hfz⟩ (fun hHeld => ?_)
          refine pure_ (i := 0) (N := some 113) (v := ?_) (a' := ?_) #[true, false, false, false, false, false, false, false, false, false, false, false, false, false, false, false, false, false] rfl rfl (by kernel_rfl) (fun _ _ _ h => h) (Or.inl ⟨by rfl, ?_⟩) ?_ ?_
          rotate_left
          · intro w'
            go_simp
            with_reducible rfl
          rotate_left
          · simp only [Act.put, List.setIfInBounds_toArray, List.set_cons_zero, List.set_cons_succ, i64_w, i32_w]
            rfl
          refine pure_ (i := 1) (N := some 114) (v := ?_) (a' := ?_) #[true, true, false, false, false, false, false, false, false, false, false, false, false, false, false, false, false, false] rfl rfl (by kernel_rfl) (fun _ _ _ h => h) (Or.inl ⟨by rfl, ?_⟩) ?_ ?_
          rotate_left
          · intro w'
            go_simp
            with_reducible rfl
          rotate_left
          · simp only [Act.put, List.setIfInBounds_toArray, List.set_cons_zero, List.set_cons_succ, i64_w, i32_w]
            rfl
          refine pure_ (i := 2) (N := some 115) (v := ?_) (a' := ?_) #[true, true, true, false, false, false, false, false, false, false, false, false, false, false, false, false, false, false] rfl rfl (by kernel_rfl) (fun _ _ _ h => h) (Or.inl ⟨by rfl, ?_⟩) ?_ ?_
          rotate_left
          · intro w'
            go_simp
            with_reducible rfl
          rotate_left
          · simp only [Act.put, List.setIfInBounds_toArray, List.set_cons_zero, List.set_cons_succ, i64_w, i32_w]
            rfl
          refine pure_ (i := 3) (N := some 116) (v := ?_) (a' := ?_) #[true, true, true, true, false, false, false, false, false, false, false, false, false, false, false, false, false, false] rfl rfl (by kernel_rfl) (fun _ _ _ h => h) (Or.inl ⟨by rfl, ?_⟩) ?_ ?_
          rotate_left
          · intro w'
            go_simp
            with_reducible rfl
          rotate_left
          · simp only [Act.put, List.setIfInBounds_toArray, List.set_cons_zero, List.set_cons_succ, i64_w, i32_w]
            rfl
          refine pure_ (i := 4) (N := some 117) (v := ?_) (a' := ?_) #[true, true, true, true, true, false, false, false, false, false, false, false, false, false, false, false, false, false] rfl rfl (by kernel_rfl) (fun _ _ _ h => h) (Or.inl ⟨by rfl, ?_⟩) ?_ ?_
          rotate_left
          · intro w'
            go_simp
            with_reducible rfl
          rotate_left
          · simp only [Act.put, List.setIfInBounds_toArray, List.set_cons_zero, List.set_cons_succ, i64_w, i32_w]
            rfl
          refine pure_ (i := 5) (N := some 118) (v := ?_) (a' := ?_) #[true, true, true, true, true, true, false, false, false, false, false, false, false, false, false, false, false, false] rfl rfl (by kernel_rfl) (fun _ _ _ h => h) (Or.inl ⟨by rfl, ?_⟩) ?_ ?_
          rotate_left
          · intro w'
            go_simp
            with_reducible rfl
          rotate_left
          · simp only [Act.put, List.setIfInBounds_toArray, List.set_cons_zero, List.set_cons_succ, i64_w, i32_w]
            rfl
          refine pure_ (i := 6) (N := some 119) (v := ?_) (a' := ?_) #[true, true, true, true, true, true, true, false, false, false, false, false, false, false, false, false, false, false] rfl rfl (by kernel_rfl) (fun _ _ _ h => h) (Or.inl ⟨by rfl, ?_⟩) ?_ ?_
          rotate_left
          · intro w'
            go_simp
            with_reducible rfl
          rotate_left
          · simp only [Act.put, List.setIfInBounds_toArray, List.set_cons_zero, List.set_cons_succ, i64_w, i32_w]
            rfl
          refine pure_ (i := 7) (N := some 120) (v := ?_) (a' := ?_) #[true, true, true, true, true, true, true, true, false, false, false, false, false, false, false, false, false, false] rfl rfl (by kernel_rfl) (fun _ _ _ h => h) (Or.inl ⟨by rfl, ?_⟩) ?_ ?_
          rotate_left
          · intro w'
            go_simp
            with_reducible rfl
          rotate_left
          · simp only [Act.put, List.setIfInBounds_toArray, List.set_cons_zero, List.set_cons_succ, i64_w, i32_w]
            rfl
          refine pure_ (i := 8) (N := some 121) (v := ?_) (a' := ?_) #[true, true, true, true, true, true, true, true, true, false, false, false, false, false, false, false, false, false] rfl rfl (by kernel_rfl) (fun _ _ _ h => h) (Or.inl ⟨by rfl, ?_⟩) ?_ ?_
          rotate_left
          · intro w'
            go_simp
            with_reducible rfl
          rotate_left
          · simp only [Act.put, List.setIfInBounds_toArray, List.set_cons_zero, List.set_cons_succ, i64_w, i32_w]
            rfl
          refine pure_ (i := 10) (N := some 123) (v := ?_) (a' := ?_) #[true, true, true, true, true, true, true, true, true, false, true, false, false, false, false, false, false, false] rfl rfl (by kernel_rfl) (fun _ _ _ h => h) (Or.inl ⟨by rfl, ?_⟩) ?_ ?_
          rotate_left
          · intro w'
            go_simp
            with_reducible rfl
          rotate_left
          · simp only [Act.put, List.setIfInBounds_toArray, List.set_cons_zero, List.set_cons_succ, i64_w, i32_w]
            rfl
          refine pure_ (i := 11) (N := some 124) (v := ?_) (a' := ?_) #[true, true, true, true, true, true, true, true, true, false, true, true, false, false, false, false, false, false] rfl rfl (by kernel_rfl) (fun _ _ _ h => h) (Or.inl ⟨by rfl, ?_⟩) ?_ ?_
          rotate_left
          · intro w'
            go_simp
            with_reducible rfl
          rotate_left
          · simp only [Act.put, List.setIfInBounds_toArray, List.set_cons_zero, List.set_cons_succ, i64_w, i32_w]
            rfl
          refine pure_ (i := 12) (N := some 125) (v := ?_) (a' := ?_) #[true, true, true, true, true, true, true, true, true, false, true, true, true, false, false, false, false, false] rfl rfl (by kernel_rfl) (fun _ _ _ h => h) (Or.inl ⟨by rfl, ?_⟩) ?_ ?_
          rotate_left
          · intro w'
            go_simp
            with_reducible rfl
          rotate_left
          · simp only [Act.put, List.setIfInBounds_toArray, List.set_cons_zero, List.set_cons_succ, i64_w, i32_w]
            rfl
          refine take_ (i := 9) (N := some 122) (v := ?_) (a' := ?_) #[true, true, true, true, true, true, true, true, true, true, true, true, true, false, false, false, false, false] rfl rfl (by kernel_rfl) (fun _ _ _ h => h) (Or.inl ⟨by rfl, ?_⟩) hHeld ?_ ?_
          rotate_left
          · rintro w' ⟨s0, s1, s2, s3, s4, s5, s6, s7, s8⟩
            go_simp
            with_reducible rfl
          rotate_left
          · simp only [Act.put, List.setIfInBounds_toArray, List.set_cons_zero, List.set_cons_succ, i64_w, i32_w]
            rfl
          refine take_ (i := 13) (N := some 126) (v := ?_) (a' := ?_) #[true, true, true, true, true, true, true, true, true, true, true, true, true, true, false, false, false, false] rfl rfl (by kernel_rfl) (fun _ _ _ h => h) (Or.inl ⟨by rfl, ?_⟩) hHeld ?_ ?_
          rotate_left
          · rintro w' ⟨s0, s1, s2, s3, s4, s5, s6, s7, s8⟩
            go_simp
            with_reducible rfl
          rotate_left
          · simp only [Act.put, List.setIfInBounds_toArray, List.set_cons_zero, List.set_cons_succ, i64_w, i32_w]
            rfl
          refine pure_ (i := 14) (N := some 127) (v := ?_) (a' := ?_) #[true, true, true, true, true, true, true, true, true, true, true, true, true, true, true, false, false, false] rfl rfl (by kernel_rfl) (fun _ _ _ h => h) (Or.inl ⟨by rfl, ?_⟩) ?_ ?_
          rotate_left
          · intro w'
            go_simp
            with_reducible rfl
          rotate_left
          · simp only [Act.put, List.setIfInBounds_toArray, List.set_cons_zero, List.set_cons_succ, i64_w, i32_w]
            rfl
          refine last_ (i := 15) (N := none) #[true, true, true, true, true, true, true, true, true, true, true, true, true, true, true, true, false, false] rfl rfl (by kernel_rfl) (by decide) (fun K hK => ?_)
          refine skip_ (w1 := ?_) (by rfl) rfl ?_ ?_
          rotate_left
          · go_simp
            rfl
          refine hK.out _ _ ?_
          clear hK K
          refine pure_ (i := 16) (N := some 128) (v := ?_) (a' := ?_) #[true, true, true, true, true, true, true, true, true, true, true, true, true, true, true, true, true, false] rfl rfl (by kernel_rfl) (fun _ _ _ h => h) (Or.inl ⟨by rfl, ?_⟩) ?_ ?_
          rotate_left
          · intro w'
            go_simp
            with_reducible rfl
          rotate_left
          · simp only [Act.put, List.setIfInBounds_toArray, List.set_cons_zero, List.set_cons_succ, i64_w, i32_w]
            rfl
          refine last_ (i := 17) (N := none) #[true, true, true, true, true, true, true, true, true, true, true, true, true, true, true, true, true, true] rfl rfl (by kernel_rfl) (by decide) (fun K hK => ?_)
          refine skip_ (w1 := ?_) (by rfl) rfl ?_ ?_
          rotate_left
          · go_simp
            rfl
          refine hK.out _ _ ?_
          clear hK K
          refine done_ (by kernel_rfl) ?_
          have HR4 := Aside0.mk HSw.out.1.drew
          have HS4 := Aside0.mk (HSw.out.2.trans HS2.out)
          clear HR HSw HS HS2 hHeld hcs3 hfz d0 d1 d2 d3 c0 c1 c2 c3
          generalize World.drew _ = w4 at *
          go_wp2_with fail
          go_roundw
          case rel => exact .mk y _ (by have := HKb.out; first | (rw [hwy]) | (clear hwy; go_num)) (by have := HKb.out; clear hwy; omega) (by have := HKb.out; have := HAk.out; clear hwy; omega) HR4.out HS4.out
          case measure => have := HKb.out; first | (rw [hwy]; clear hwy; simp [intOf]; omega) | (clear hwy; simp [intOf]; omega)
        · have e0 : k = i := by omega
          subst e0
          have hk3 : decide (k < k) = false := decide_eq_false hk
          clear hk
          go_wp2_with fail
          (try simp only [Exit.inBlock, Exit.then]); refine bodyPost_ret (results_none rfl _ _ _) rfl ?_
          have := HM.out
          refine ⟨rfl, ys, HR.out, ?_, ?_⟩
          · rw [HS.out]; exact (rot_in (by omega) (by omega)).wide (by omega) (by omega)
          · rw [HS.out]; exact sym_leaf HP.out H1.out H2.out (by omega) (by omega) (by omega) (by omega) (fun h _ => Int.not_lt.2 (HI.out h)) (fun h _ => by rw [Nat.add_sub_cancel]; exact HP.out.asym _ _ (HJ.out h)) (fun _ h => by omega) (fun _ h => by omega)
end Go.Proofs.Ytfeeahjaeapkoaa.Ext
end

section
namespace Go.Proofs.Ytfeeahjaeapkoaa.Ext
set_option linter.unusedVariables false
set_option linter.unusedSimpArgs false
open Go.RowKit Go.Proofs.YtfeeahjaeapkoaaW.PrintWords Go.Proofs.YtfeeahjaeapkoaaW.PrintLast Go.Proofs.YtfeeahjaeapkoaaW.PrintMore Go.Proofs.Ytfeeahjaeapkoaa.Lib
inductive RelC (w : World) (base : Nat) (ok : Nat → Prop) (g n c : Nat) (xs : List Q) (a m b mid nn : Nat) (v1 v2 : Value) (w' : World) : Prop
  | mk (lo hi : Nat) (e1 : v1 = .int .i64 lo) (e2 : v2 = .int .i64 hi) (hf : a ≤ lo ∧ lo ≤ hi ∧ hi ≤ m ∧ hi ≤ mid ∧ nn ≤ lo + b ∧ (lo = a ∨ lo + b = nn) ∧ (hi = m ∨ hi = mid)) (hrs : RS w w' base ok g n c xs xs)
inductive RelE (w : World) (base : Nat) (ok : Nat → Prop) (g n c : Nat) (xs ys : List Q) (s m e : Nat) (v : Value) (w' : World) : Prop
  | mk (t : Bool) (e1 : v = .bool t) (hy : t = true → s < m ∧ m < e) (hn : t = false → m ≤ s ∨ e ≤ m) (hrs : RS w w' base ok g n c xs ys)
inductive RelD (w : World) (base : Nat) (ok : Nat → Prop) (g n c : Nat) (xs : List Q) (s m e : Nat) (w' : World) : Prop
  | mk (ys : List Q) (hrs : RS w w' base ok g n c xs ys) (hy : at_ ys = rotF s m e (at_ xs))
inductive RelF (cf : Q → Q → Int) (w : World) (base : Nat) (ok : Nat → Prop) (g n c : Nat) (xs ys : List Q) (a b : Nat) (w' : World) : Prop
  | mk (zs : List Q) (hrs : RS w w' base ok g n c xs zs) (hi : In a b (at_ ys) (at_ zs)) (hs : SrtOn cf (at_ zs) a b)
theorem CmpOk.next {f : FuncId} {cf : Q → Q → Int} {w w' : World} {base : Nat} {ok : Nat → Prop} {g n c : Nat} {xs ys : List Q} (h : CmpOk f cf w g xs) (hr : RS w w' base ok g n c xs ys) : CmpOk f cf w' g ys := fun w2 h2 p hp q hq => h w2 (grown_trans hr.grown h2) p (hr.perm.mem_iff.1 hp) q (hr.perm.mem_iff.1 hq)
set_option maxRecDepth 100000 in
set_option maxHeartbeats 3200000 in
theorem sym3_calls (cf : Q → Q → Int) (hp : Pre cf) (f : FuncId) (fn : Func) (hf : Try.prog.funcs[f]? = some fn) (hname : (fn.name == "runtime.NumGoroutine") = false) (hbody : fn.body.isSome = true) (g c n : Nat) (base : Nat) (ok : Nat → Prop) (hn : n ≤ 1152921504606846976) (a m b : Nat) (xs : List Q) (w : World)
    (hrow : kq.R 40 w base ok (.slice (some ⟨g, 0, none⟩) n c) xs) (hcmp : CmpOk f cf w g xs) (h1 : SrtOn cf (at_ xs) a m) (h2 : SrtOn cf (at_ xs) m b) (hma : a + 1 < m) (hmb : m + 1 < b) (hb : b ≤ n)
    (hIH : ∀ (a' m' b' : Nat) (xs' : List Q) (w' : World), b' - a' < b - a → a' < m' → m' < b' → b' ≤ n → kq.R 40 w' base ok (.slice (some ⟨g, 0, none⟩) n c) xs' → CmpOk f cf w' g xs' → SrtOn cf (at_ xs') a' m' → SrtOn cf (at_ xs') m' b' →
      Calls Try.prog 58 #[.slice (some ⟨g, 0, none⟩) n c, .int .i64 a', .int .i64 m', .int .i64 b', .func (.func f) #[] #[]] w' fun e w2 => e = .returned (.tuple #[]) ∧ ∃ ys, RS w' w2 base ok g n c xs' ys ∧ In a' b' (at_ xs') (at_ ys) ∧ SrtOn cf (at_ ys) a' b') :
    Calls Try.prog 58 #[.slice (some ⟨g, 0, none⟩) n c, .int .i64 a, .int .i64 m, .int .i64 b, .func (.func f) #[] #[]] w fun e w' => e = .returned (.tuple #[]) ∧ ∃ ys, RS w w' base ok g n c xs ys ∧ In a b (at_ xs) (at_ ys) ∧ SrtOn cf (at_ ys) a b := by
  have HF := Aside0.mk hf
  have HNm := Aside0.mk hname
  have HBd := Aside0.mk hbody
  have HCmp := Aside0.mk hcmp
  have HP := Aside0.mk hp
  have H1 := Aside0.mk h1
  have H2 := Aside0.mk h2
  have HR := Aside0.mk (RS.refl hrow)
  clear hf hname hbody hcmp hrow hp h1 h2
  have HIH := Aside0.mk hIH
  obtain ⟨mid, hmid⟩ : ∃ x, x = (a + b) / 2 := ⟨_, rfl⟩
  obtain ⟨s0, hs0⟩ : ∃ x, x = a + b := ⟨_, rfl⟩
  obtain ⟨nn, hnn⟩ : ∃ x, x = mid + m := ⟨_, rfl⟩
  obtain ⟨pp, hpp⟩ : ∃ x, nn = x + 1 := ⟨nn - 1, by omega⟩
  have HN := Aside0.mk (show 2 * mid ≤ a + b ∧ a + b ≤ 2 * mid + 1 ∧ nn = mid + m ∧ nn = pp + 1 ∧ a + 1 < m ∧ m + 1 < b ∧ b ≤ n ∧ n ≤ 1152921504606846976 by omega)
  have t1 : (((m : Int) - (a : Int)) == 1) = false := beq_eq_false_iff_ne.2 (by omega)
  have t2 : (((b : Int) - (m : Int)) == 1) = false := beq_eq_false_iff_ne.2 (by omega)
  have W1 := Aside0.mk (show (a : Int) + (b : Int) = (s0 : Int) by omega)
  have WB := Aside0.mk (show a ≤ 1152921504606846976 ∧ b ≤ 1152921504606846976 ∧ m ≤ 1152921504606846976 ∧ mid ≤ 1152921504606846976 ∧ nn ≤ 2305843009213693952 ∧ s0 ≤ 2305843009213693952 by omega)
  have W2 := Aside0.mk (show IntKind.u64.wrap (s0 : Int) = (s0 : Int) from wraps_u64 _ (by omega) (by omega))
  have W3 := Aside0.mk (show (s0 : Int) / 2 = (mid : Int) by omega)
  have W5 := Aside0.mk (show (mid : Int) + (m : Int) = (nn : Int) by omega)
  have W6 := Aside0.mk (show (nn : Int) - 1 = (pp : Int) by omega)
  clear hIH hmid hnn hpp hs0
  go_enter Try.func58, Try.ntmps58
  go_upto_region 24 with fail
  clear hma hmb hb t1 t2 hn
  have w1 := W1.out
  have w2 := W2.out
  have w3 := W3.out
  obtain ⟨wa, wb, wm, wmid, wnn, ws⟩ := WB.out
  have w5 := W5.out
  go_upto_if 140 with fail
  clear w1 w2 w3 w5 wa ws
  go_cut [20, 21] (fun s1 s2 wx => RelC w base ok g n c xs a m b mid nn s1 s2 wx)
  case first => as_aux_lemma =>
    by_cases hc : mid < m
    · have hci : (mid : Int) < (m : Int) := by omega
      obtain ⟨lo, hlo⟩ : ∃ x, x = nn - b := ⟨_, rfl⟩
      have hf := HN.out
      have HC := Aside0.mk (show lo = nn - b ∧ mid < m by omega)
      have w1 : (nn : Int) - (b : Int) = (lo : Int) := by omega
      clear hlo hf hc
      go_wp2_with fail
      go_meet
      clear w1 hci
      exact .mk lo mid rfl rfl (by have hf := HN.out; have := HC.out; omega) HR.out
    · have hci : decide ((mid : Int) < (m : Int)) = false := decide_eq_false (by omega)
      have hcj : decide (mid < m) = false := decide_eq_false hc
      have HC := Aside0.mk hc
      have hck : (m : Int) ≤ (mid : Int) := by omega
      clear hc
      go_wp2_with fail
      go_meet
      clear hci hcj
      exact .mk a m rfl rfl (by have hf := HN.out; have := HC.out; omega) HR.out
  case rest => as_aux_lemma =>
    clear HR
    obtain ⟨lo, hi, rfl, rfl, hl, hR⟩ := hcut
    have HL := Aside0.mk hl
    have HR := Aside0.mk hR
    clear hl hR
    have w6 := W6.out
    go_wp2_with fail
    clear w6 wb wm wmid wnn
    go_loopw [20, 21] (fun v20 v21 w' => RelA3 cf w base ok g n c xs lo hi pp v20 v21 w') (fun v20 v21 _ => (intOf v21).toNat - (intOf v20).toNat)
    case atStart => exact .mk lo hi rfl rfl (Nat.le_refl _) HL.out.2.1 (Nat.le_refl _) (fun h => absurd h (Nat.lt_irrefl _)) (fun h => absurd h (Nat.lt_irrefl _)) HR.out
    case round => as_aux_lemma =>
      clear HR
      obtain ⟨i, j, rfl, rfl, hi1, hij, hj1, hI, hJ, hR⟩ := hrel
      have HI := Aside0.mk hI
      have HJ := Aside0.mk hJ
      have HR := Aside0.mk hR
      have hjn : j ≤ n ∧ n ≤ 1152921504606846976 := (by have := HN.out; have := HL.out; omega)
      clear hI hJ hR
      by_cases hlt : i < j
      · obtain ⟨h, hh⟩ : ∃ h, h = (i + j) / 2 := ⟨_, rfl⟩
        obtain ⟨y, hy⟩ : ∃ y, y = pp - h := ⟨_, rfl⟩
        have HX := Aside0.mk (show i ≤ h ∧ h < j ∧ (i : Int) < (j : Int) ∧ ((i : Int) + (j : Int)) / 2 = (h : Int) ∧ (h : Int) < (n : Int) ∧ (y : Int) < (n : Int) ∧ h < 9223372036854775808 ∧ (pp : Int) - (h : Int) = (y : Int) ∧ y < 9223372036854775808 ∧ y = pp - h by have := HN.out; have := HL.out; omega)
        have hal := HX.out
        obtain ⟨d0, d1, d2, d3⟩ := kq_get HR.out.row y (by omega)
        simp only [encSL] at d1 d2
        obtain ⟨c0, c1, c2, c3⟩ := kq_get HR.out.row h (by omega)
        simp only [encSL] at c1 c2
        have hm1 : at_ xs y ∈ xs := (by have hl := HR.out.len; show xs.getD y zQ ∈ xs; rw [List.getD_eq_getElem?_getD, List.getElem?_eq_getElem (by omega)]; exact List.getElem_mem _)
        have hm0 : at_ xs h ∈ xs := (by have hl := HR.out.len; show xs.getD h zQ ∈ xs; rw [List.getD_eq_getElem?_getD, List.getElem?_eq_getElem (by omega)]; exact List.getElem_mem _)
        have HC := Aside0.mk (fun w' (h : w.grownBy w' (some g)) => HCmp.out w' h _ hm1 _ hm0)
        generalize hp1 : xs.getD y zQ = p at *
        generalize hq1 : xs.getD h zQ = q at *
        have HPq := Aside0.mk (show at_ xs (pp - h) = p ∧ at_ xs h = q from ⟨by rw [← hy]; exact hp1, hq1⟩)
        rw [show at_ xs y = p from hp1, show at_ xs h = q from hq1] at HC
        clear hp1 hq1 hm1 hm0 hlt hh hal hy
        have hij2 := HX.out.2.2.1
        have hhi := HX.out.2.2.2.1
        have hhn := HX.out.2.2.2.2.1
        have hyn := HX.out.2.2.2.2.2.1
        have hwu : IntKind.u64.wrap ((i : Int) + (j : Int)) = (i : Int) + (j : Int) := wraps_u64 _ (by omega) (by have := HN.out; have := HL.out; omega)
        have hwh : wrap64 (h : Int) = (h : Int) := w64 rfl HX.out.2.2.2.2.2.2.1
        have hwy : wrap64 ((pp : Int) - (h : Int)) = (y : Int) := w64 HX.out.2.2.2.2.2.2.2.1 HX.out.2.2.2.2.2.2.2.2.1
        go_wp2_with fail
        refine start_ (n := 14) (S := fun w' => w'.cell? ⟨g, y * 4, none⟩ = some (.int .i64 p.1) ∧ w'.cell? ⟨g, y * 4 + 1, none⟩ = some (.slice p.2.1.1 p.2.1.2.1 p.2.1.2.2) ∧ w'.cell? ⟨g, y * 4 + 2, none⟩ = some (.slice p.2.2.1.1 p.2.2.1.2.1 p.2.2.1.2.2) ∧ w'.cell? ⟨g, y * 4 + 3, none⟩ = some (.int .u64 p.2.2.2) ∧ w'.cell? ⟨g, h * 4, none⟩ = some (.int .i64 q.1) ∧ w'.cell? ⟨g, h * 4 + 1, none⟩ = some (.slice q.2.1.1 q.2.1.2.1 q.2.1.2.2) ∧ w'.cell? ⟨g, h * 4 + 2, none⟩ = some (.slice q.2.2.1.1 q.2.2.1.2.1 q.2.2.1.2.2) ∧ w'.cell? ⟨g, h * 4 + 3, none⟩ = some (.int .u64 q.2.2.2)) (ds := []) #[false, false, false, false, false, false, false, false, false, false, false, false, false, false] (by kernel_rfl) rfl rfl ⟨d0, d1, d2, d3, c0, c1, c2, c3⟩ (fun hHeld => ?_)
        refine pure_ (i := 0) (N := some 158) (v := ?_) (a' := ?_) #[true, false, false, false, false, false, false, false, false, false, false, false, false, false] rfl rfl (by kernel_rfl) (fun _ _ _ h => h) (Or.inl ⟨by rfl, ?_⟩) ?_ ?_
        rotate_left
        · intro w'
          go_simp
          with_reducible rfl
        rotate_left
        · simp only [Act.put, List.setIfInBounds_toArray, List.set_cons_zero, List.set_cons_succ, i64_w, i32_w]
          rfl
        refine pure_ (i := 1) (N := some 159) (v := ?_) (a' := ?_) #[true, true, false, false, false, false, false, false, false, false, false, false, false, false] rfl rfl (by kernel_rfl) (fun _ _ _ h => h) (Or.inl ⟨by rfl, ?_⟩) ?_ ?_
        rotate_left
        · intro w'
          go_simp
          with_reducible rfl
        rotate_left
        · simp only [Act.put, List.setIfInBounds_toArray, List.set_cons_zero, List.set_cons_succ, i64_w, i32_w]
          rfl
        refine pure_ (i := 2) (N := some 160) (v := ?_) (a' := ?_) #[true, true, true, false, false, false, false, false, false, false, false, false, false, false] rfl rfl (by kernel_rfl) (fun _ _ _ h => h) (Or.inl ⟨by rfl, ?_⟩) ?_ ?_
        rotate_left
        · intro w'
          go_simp
          with_reducible rfl
        rotate_left
        · simp only [Act.put, List.setIfInBounds_toArray, List.set_cons_zero, List.set_cons_succ, i64_w, i32_w]
          rfl
        refine pure_ (i := 3) (N := some 161) (v := ?_) (a' := ?_) #[true, true, true, true, false, false, false, false, false, false, false, false, false, false] rfl rfl (by kernel_rfl) (fun _ _ _ h => h) (Or.inl ⟨by rfl, ?_⟩) ?_ ?_
        rotate_left
        · intro w'
          go_simp
          with_reducible rfl
        rotate_left
        · simp only [Act.put, List.setIfInBounds_toArray, List.set_cons_zero, List.set_cons_succ, i64_w, i32_w]
          rfl
        refine pure_ (i := 4) (N := some 162) (v := ?_) (a' := ?_) #[true, true, true, true, true, false, false, false, false, false, false, false, false, false] rfl rfl (by kernel_rfl) (fun _ _ _ h => h) (Or.inl ⟨by rfl, ?_⟩) ?_ ?_
        rotate_left
        · intro w'
          go_simp
          with_reducible rfl
        rotate_left
        · simp only [Act.put, List.setIfInBounds_toArray, List.set_cons_zero, List.set_cons_succ, i64_w, i32_w]
          rfl
        refine pure_ (i := 5) (N := some 163) (v := ?_) (a' := ?_) #[true, true, true, true, true, true, false, false, false, false, false, false, false, false] rfl rfl (by kernel_rfl) (fun _ _ _ h => h) (Or.inl ⟨by rfl, ?_⟩) ?_ ?_
        rotate_left
        · intro w'
          go_simp
          with_reducible rfl
        rotate_left
        · simp only [Act.put, List.setIfInBounds_toArray, List.set_cons_zero, List.set_cons_succ, i64_w, i32_w]
          rfl
        refine pure_ (i := 7) (N := some 165) (v := ?_) (a' := ?_) #[true, true, true, true, true, true, false, true, false, false, false, false, false, false] rfl rfl (by kernel_rfl) (fun _ _ _ h => h) (Or.inl ⟨by rfl, ?_⟩) ?_ ?_
        rotate_left
        · intro w'
          go_simp
          with_reducible rfl
        rotate_left
        · simp only [Act.put, List.setIfInBounds_toArray, List.set_cons_zero, List.set_cons_succ, i64_w, i32_w]
          rfl
        refine pure_ (i := 8) (N := some 166) (v := ?_) (a' := ?_) #[true, true, true, true, true, true, false, true, true, false, false, false, false, false] rfl rfl (by kernel_rfl) (fun _ _ _ h => h) (Or.inl ⟨by rfl, ?_⟩) ?_ ?_
        rotate_left
        · intro w'
          go_simp
          with_reducible rfl
        rotate_left
        · simp only [Act.put, List.setIfInBounds_toArray, List.set_cons_zero, List.set_cons_succ, i64_w, i32_w]
          rfl
        refine pure_ (i := 9) (N := some 167) (v := ?_) (a' := ?_) #[true, true, true, true, true, true, false, true, true, true, false, false, false, false] rfl rfl (by kernel_rfl) (fun _ _ _ h => h) (Or.inl ⟨by rfl, ?_⟩) ?_ ?_
        rotate_left
        · intro w'
          go_simp
          with_reducible rfl
        rotate_left
        · simp only [Act.put, List.setIfInBounds_toArray, List.set_cons_zero, List.set_cons_succ, i64_w, i32_w]
          rfl
        refine take_ (i := 6) (N := some 164) (v := ?_) (a' := ?_) #[true, true, true, true, true, true, true, true, true, true, false, false, false, false] rfl rfl (by kernel_rfl) (fun _ _ _ h => h) (Or.inl ⟨by rfl, ?_⟩) hHeld ?_ ?_
        rotate_left
        · rintro w' ⟨s0, s1, s2, s3, s4, s5, s6, s7⟩
          go_simp
          with_reducible rfl
        rotate_left
        · simp only [Act.put, List.setIfInBounds_toArray, List.set_cons_zero, List.set_cons_succ, i64_w, i32_w]
          rfl
        refine take_ (i := 10) (N := some 168) (v := ?_) (a' := ?_) #[true, true, true, true, true, true, true, true, true, true, true, false, false, false] rfl rfl (by kernel_rfl) (fun _ _ _ h => h) (Or.inl ⟨by rfl, ?_⟩) hHeld ?_ ?_
        rotate_left
        · rintro w' ⟨s0, s1, s2, s3, s4, s5, s6, s7⟩
          go_simp
          with_reducible rfl
        rotate_left
        · simp only [Act.put, List.setIfInBounds_toArray, List.set_cons_zero, List.set_cons_succ, i64_w, i32_w]
          rfl
        refine one_ (i := 11) (N := some 169) #[true, true, true, true, true, true, true, true, true, true, true, true, false, false] rfl rfl (by kernel_rfl) (by decide) (fun K hK => ?_)
        refine goesv_ HF.out HNm.out HBd.out (#[.agg #[.int .i64 p.1, .slice p.2.1.1 p.2.1.2.1 p.2.1.2.2, .slice p.2.2.1.1 p.2.2.1.2.1 p.2.2.1.2.2, .int .u64 p.2.2.2], .agg #[.int .i64 q.1, .slice q.2.1.1 q.2.1.2.1 q.2.1.2.2, .slice q.2.2.1.1 q.2.2.1.2.1 q.2.2.1.2.2, .int .u64 q.2.2.2]]) (by rfl) rfl rfl rfl (by simp only [List.map_toArray, List.map_cons, List.map_nil]; rfl) ?_
        with_reducible refine (HC.out _ (grown_drew HR.out.grown)).mono ?_
        rintro e w3 ⟨rfl, hb⟩
        refine ⟨_, rfl, ?_⟩
        have hbx := Aside0.mk (below_then (below_drew (Below.refl _ _)) (Nat.le_refl _) hb)
        have HR3 := Aside0.mk (HR.out.below hbx.out)
        clear hb
        refine hK.out _ _ ⟨(pw_cell_below hbx.out d0), (pw_cell_below hbx.out d1), (pw_cell_below hbx.out d2), (pw_cell_below hbx.out d3), (pw_cell_below hbx.out c0), (pw_cell_below hbx.out c1), (pw_cell_below hbx.out c2), (pw_cell_below hbx.out c3)⟩ (fun hHeld => ?_)
        clear hK K
        refine norm_ (a' := ?_) ?_ ?_
        rotate_left
        · show Act.put _ (some 169) _ = _
          simp only [Act.put, List.setIfInBounds_toArray, List.set_cons_zero, List.set_cons_succ, i64_w, i32_w]
          rfl
        refine pure_ (i := 12) (N := some 170) (v := ?_) (a' := ?_) #[true, true, true, true, true, true, true, true, true, true, true, true, true, false] rfl rfl (by kernel_rfl) (fun _ _ _ h => h) (Or.inl ⟨by rfl, ?_⟩) ?_ ?_
        rotate_left
        · intro w'
          go_simp
          with_reducible rfl
        rotate_left
        · simp only [Act.put, List.setIfInBounds_toArray, List.set_cons_zero, List.set_cons_succ, i64_w, i32_w]
          rfl
        refine pure_ (i := 13) (N := some 171) (v := ?_) (a' := ?_) #[true, true, true, true, true, true, true, true, true, true, true, true, true, true] rfl rfl (by kernel_rfl) (fun _ _ _ h => h) (Or.inl ⟨by rfl, ?_⟩) ?_ ?_
        rotate_left
        · intro w'
          go_simp
          with_reducible rfl
        rotate_left
        · simp only [Act.put, List.setIfInBounds_toArray, List.set_cons_zero, List.set_cons_succ, i64_w, i32_w]
          rfl
        refine done_ (by kernel_rfl) ?_
        clear hHeld d0 d1 d2 d3 c0 c1 c2 c3 HR HC hbx
        by_cases hc : cf p q < 0
        · have hcd : decide (cf p q < 0) = true := decide_eq_true hc
          have HCq := Aside0.mk hc
          clear hc
          rw [hcd]; simp only [Bool.not_true, Bool.not_false]
          go_wp2_with fail
          go_roundw
          case rel => exact .mk i h rfl rfl hi1 (by have := HX.out; clear hwu hwh hwy; omega) (by have := HX.out; clear hwu hwh hwy; omega) (fun h => Int.not_lt.2 (HI.out h)) (fun _ => by rw [HPq.out.1, HPq.out.2]; exact HCq.out) HR3.out
          case measure => have := HX.out; clear hwu hwh hwy; simp [intOf]; omega
        · have hcd : decide (cf p q < 0) = false := decide_eq_false hc
          have HCq := Aside0.mk (Int.not_lt.1 hc)
          clear hc
          rw [hcd]; simp only [Bool.not_true, Bool.not_false]
          go_wp2_with fail
          go_roundw
          case rel => exact .mk (h + 1) j (by clear hwu hwh hwy; go_num) rfl (by have := HX.out; clear hwu hwh hwy; omega) (by have := HX.out; clear hwu hwh hwy; omega) hj1 (fun _ => by rw [Nat.add_sub_cancel, HPq.out.1, HPq.out.2]; exact Int.not_lt.2 HCq.out) HJ.out HR3.out
          case measure => have := HX.out; clear hwu hwh hwy; simp [intOf]; omega
      · obtain rfl : i = j := by omega
        have t3 : decide (i < i) = false := decide_eq_false (by omega)
        clear hlt
        obtain ⟨e, he⟩ : ∃ e, e = nn - i := ⟨_, rfl⟩
        have HE := Aside0.mk (show a ≤ i ∧ i ≤ m ∧ m ≤ e ∧ e ≤ b ∧ i + (e - m) = mid ∧ (nn : Int) - (i : Int) = (e : Int) ∧ nn = i + e ∧ a < mid ∧ mid < b ∧ b ≤ n by have := HN.out; have := HL.out; omega)
        have HC1 := Aside0.mk (show a < i → e < b → ¬ cf (at_ xs e) (at_ xs (i - 1)) < 0 from fun h1 h2 => by
          have := HN.out; have := HL.out; have := HE.out
          have h3 : lo < i := by omega
          have h4 := HI.out h3
          rw [show pp - (i - 1) = e by omega] at h4
          first | exact h4 | exact Int.not_lt.2 h4)
        have HC2 := Aside0.mk (show i < m → m < e → cf (at_ xs (e - 1)) (at_ xs i) < 0 from fun h1 h2 => by
          have := HN.out; have := HL.out; have := HE.out
          have h3 : i < hi := by omega
          have h4 := HJ.out h3
          rw [show pp - i = e - 1 by omega] at h4
          exact h4)
        have e4 := HE.out.2.2.2.2.2.1
        have wb : nn ≤ 2305843009213693952 ∧ i ≤ nn ∧ m ≤ n := by have := HE.out; have := WB.out; omega
        clear he hi1 hij hj1 HI HJ
        go_upto_region 39 with fail
        go_cut [185] (fun sv wx => RelE w base ok g n c xs xs i m e sv wx)
        case first => as_aux_lemma =>
          by_cases q1 : i < m
          · have q1i : (i : Int) < (m : Int) := by omega
            by_cases q2 : m < e
            · have q2i : (m : Int) < (e : Int) := by omega
              have Q1 := Aside0.mk q1
              have Q2 := Aside0.mk q2
              clear q1 q2
              go_wp2_with fail
              go_meet
              exact .mk true rfl (fun _ => ⟨Q1.out, Q2.out⟩) (fun h => by cases h) HR.out
            · have q2i : decide ((m : Int) < (e : Int)) = false := decide_eq_false (by omega)
              have q2j : decide (m < e) = false := decide_eq_false q2
              have Q2 := Aside0.mk (Nat.not_lt.1 q2)
              clear q1 q2
              go_wp2_with fail
              go_meet
              exact .mk false rfl (fun h => by cases h) (fun _ => .inr Q2.out) HR.out
          · have q1i : decide ((i : Int) < (m : Int)) = false := decide_eq_false (by omega)
            have q1j : decide (i < m) = false := decide_eq_false q1
            have Q1 := Aside0.mk (Nat.not_lt.1 q1)
            clear q1
            go_wp2_with fail
            go_meet
            exact .mk false rfl (fun h => by cases h) (fun _ => .inl Q1.out) HR.out
        case rest => as_aux_lemma =>
          clear HR
          obtain ⟨t, rfl, hy, hno, hR⟩ := hcut
          have HY := Aside0.mk hy
          have HNo := Aside0.mk hno
          have HR := Aside0.mk hR
          clear hy hno hR
          go_upto_if 185 with fail
          go_cut [] (fun wx => RelD w base ok g n c xs i m e wx)
          case first => as_aux_lemma =>
            cases t with
            | true =>
              have HCa := Aside0.mk (fun wx (hr : RS w wx base ok g n c xs xs) => rot_calls (.func (.func f) #[] #[]) g c n i m e xs wx base ok hr.row (HY.out (by first | rfl | trivial)).1 (HY.out (by first | rfl | trivial)).2 (by have := HE.out; omega) (by omega))
              go_wp2_with (first | (go_at_call 59; refine (HCa.out _ HR.out).mono ?_; rintro e w4 ⟨rfl, zs, hr4, hs4⟩; have HR4 := Aside0.mk (HR.out.trans hr4); have HS4 := Aside0.mk hs4; clear hr4 hs4) | fail)
              go_meet
              exact .mk zs HR4.out HS4.out
            | false =>
              go_wp2_with fail
              go_meet
              refine .mk xs HR.out ?_
              have := HE.out
              rcases HNo.out (by first | rfl | trivial) with h | h
              · obtain rfl : i = m := by omega
                exact (rot_none1 i e _).symm
              · obtain rfl : m = e := by omega
                exact (rot_none2 i m _).symm
          case rest => as_aux_lemma =>
            clear HR
            obtain ⟨ys, hR, hS⟩ := hcut
            have HR := Aside0.mk hR
            have HS := Aside0.mk hS
            clear hR hS HY HNo
            have HX := Aside0.mk (show ∀ i' j, a ≤ i' → i' < mid → mid ≤ j → j < b → ¬ cf (at_ ys j) (at_ ys i') < 0 by have hE := HE.out; rw [HS.out, ← hE.2.2.2.2.1]; exact sym_cross HP.out H1.out H2.out hE.1 hE.2.1 hE.2.2.1 hE.2.2.2.1 HC1.out HC2.out)
            have HO1 := Aside0.mk (show SrtOn cf (at_ ys) a i by have hE := HE.out; rw [HS.out]; exact sym_one H1.out hE.2.1 hE.2.2.1)
            have HO2 := Aside0.mk (show SrtOn cf (at_ ys) i mid by have hE := HE.out; rw [HS.out, ← hE.2.2.2.2.1]; exact sym_two H2.out hE.2.1 hE.2.2.1 hE.2.2.2.1)
            have HO3 := Aside0.mk (show SrtOn cf (at_ ys) mid e by have hE := HE.out; rw [HS.out, ← hE.2.2.2.2.1]; exact sym_three H1.out hE.1 hE.2.1 hE.2.2.1)
            have HO4 := Aside0.mk (show SrtOn cf (at_ ys) e b by have hE := HE.out; rw [HS.out]; exact sym_four H2.out hE.2.1 hE.2.2.1)
            have HIn := Aside0.mk (show In a b (at_ xs) (at_ ys) by have hE := HE.out; rw [HS.out]; exact (rot_in hE.2.1 hE.2.2.1).wide hE.1 hE.2.2.2.1)
            clear HS HC1 HC2 H1 H2
            go_upto_region 41 with fail
            go_cut [199] (fun sv wx => RelE w base ok g n c xs ys a i mid sv wx)
            case first => as_aux_lemma =>
              by_cases q1 : a < i
              · have q1i : (a : Int) < (i : Int) := by omega
                by_cases q2 : i < mid
                · have q2i : (i : Int) < (mid : Int) := by omega
                  have Q1 := Aside0.mk q1
                  have Q2 := Aside0.mk q2
                  clear q1 q2
                  go_wp2_with fail
                  go_meet
                  exact .mk true rfl (fun _ => ⟨Q1.out, Q2.out⟩) (fun h => by cases h) HR.out
                · have q2i : decide ((i : Int) < (mid : Int)) = false := decide_eq_false (by omega)
                  have q2j : decide (i < mid) = false := decide_eq_false q2
                  have Q2 := Aside0.mk (Nat.not_lt.1 q2)
                  clear q1 q2
                  go_wp2_with fail
                  go_meet
                  exact .mk false rfl (fun h => by cases h) (fun _ => .inr Q2.out) HR.out
              · have q1i : decide ((a : Int) < (i : Int)) = false := decide_eq_false (by omega)
                have q1j : decide (a < i) = false := decide_eq_false q1
                have Q1 := Aside0.mk (Nat.not_lt.1 q1)
                clear q1
                go_wp2_with fail
                go_meet
                exact .mk false rfl (fun h => by cases h) (fun _ => .inl Q1.out) HR.out
            case rest => as_aux_lemma =>
              clear HR
              obtain ⟨t, rfl, hy, hno, hR⟩ := hcut
              have HY := Aside0.mk hy
              have HNo := Aside0.mk hno
              have HR := Aside0.mk hR
              clear hy hno hR
              go_upto_if 199 with fail
              go_cut [] (fun wx => RelF cf w base ok g n c xs ys a mid wx)
              case first => as_aux_lemma =>
                cases t with
                | true =>
                  have HCa := Aside0.mk (fun wx (hr : RS w wx base ok g n c xs ys) => HIH.out a i mid ys wx (by have := HE.out; omega) (HY.out (by first | rfl | trivial)).1 (HY.out (by first | rfl | trivial)).2 (by have := HE.out; omega) hr.row (HCmp.out.next hr) HO1.out HO2.out)
                  go_wp2_with (first | (go_at_call 58; refine (HCa.out _ HR.out).mono ?_; rintro e w4 ⟨rfl, zs, hr4, hi4, hs4⟩; have HR4 := Aside0.mk (HR.out.trans hr4); have HI4 := Aside0.mk hi4; have HS4 := Aside0.mk hs4; clear hr4 hs4 hi4) | fail)
                  go_meet
                  exact .mk zs HR4.out HI4.out HS4.out
                | false =>
                  go_wp2_with fail
                  go_meet
                  refine .mk ys HR.out (In.refl _ _ _) ?_
                  have := HE.out
                  rcases HNo.out (by first | rfl | trivial) with h | h
                  · obtain rfl : a = i := by omega
                    exact HO2.out
                  · obtain rfl : i = mid := by omega
                    exact HO1.out
              case rest => as_aux_lemma =>
                clear HR
                obtain ⟨zs, hR, hIz, hSz⟩ := hcut
                have HR := Aside0.mk hR
                have HIz := Aside0.mk hIz
                have HSz := Aside0.mk hSz
                clear hR hIz hSz HY HNo
                replace HO3 := Aside0.mk (HO3.out.out HIz.out (.inr (Nat.le_refl _)))
                replace HO4 := Aside0.mk (HO4.out.out HIz.out (.inr (by have := HE.out; omega)))
                go_upto_region 43 with fail
                go_cut [213] (fun sv wx => RelE w base ok g n c xs zs mid e b sv wx)
                case first => as_aux_lemma =>
                  by_cases q1 : mid < e
                  · have q1i : (mid : Int) < (e : Int) := by omega
                    by_cases q2 : e < b
                    · have q2i : (e : Int) < (b : Int) := by omega
                      have Q1 := Aside0.mk q1
                      have Q2 := Aside0.mk q2
                      clear q1 q2
                      go_wp2_with fail
                      go_meet
                      exact .mk true rfl (fun _ => ⟨Q1.out, Q2.out⟩) (fun h => by cases h) HR.out
                    · have q2i : decide ((e : Int) < (b : Int)) = false := decide_eq_false (by omega)
                      have q2j : decide (e < b) = false := decide_eq_false q2
                      have Q2 := Aside0.mk (Nat.not_lt.1 q2)
                      clear q1 q2
                      go_wp2_with fail
                      go_meet
                      exact .mk false rfl (fun h => by cases h) (fun _ => .inr Q2.out) HR.out
                  · have q1i : decide ((mid : Int) < (e : Int)) = false := decide_eq_false (by omega)
                    have q1j : decide (mid < e) = false := decide_eq_false q1
                    have Q1 := Aside0.mk (Nat.not_lt.1 q1)
                    clear q1
                    go_wp2_with fail
                    go_meet
                    exact .mk false rfl (fun h => by cases h) (fun _ => .inl Q1.out) HR.out
                case rest => as_aux_lemma =>
                  clear HR
                  obtain ⟨t, rfl, hy, hno, hR⟩ := hcut
                  have HY := Aside0.mk hy
                  have HNo := Aside0.mk hno
                  have HR := Aside0.mk hR
                  clear hy hno hR
                  cases t with
                  | true =>
                    have HCa := Aside0.mk (fun wx (hr : RS w wx base ok g n c xs zs) => HIH.out mid e b zs wx (by have := HE.out; omega) (HY.out (by first | rfl | trivial)).1 (HY.out (by first | rfl | trivial)).2 (by have := HE.out; omega) hr.row (HCmp.out.next hr) HO3.out HO4.out)
                    go_wp2_with (first | (go_at_call 58; refine (HCa.out _ HR.out).mono ?_; rintro e w4 ⟨rfl, us, hr4, hi4, hs4⟩; have HR4 := Aside0.mk (HR.out.trans hr4); have HI4 := Aside0.mk hi4; have HS4 := Aside0.mk hs4; clear hr4 hs4 hi4) | fail)
                    go_end0
                    have HE2 := HE.out
                    have i1 : In a b (at_ ys) (at_ zs) := HIz.out.wide (Nat.le_refl _) (by omega)
                    have i2 : In a b (at_ zs) (at_ us) := HI4.out.wide (by omega) (Nat.le_refl _)
                    have i3 : In a b (at_ xs) (at_ us) := In.trans HIn.out (In.trans i1 i2)
                    have i4 : SrtOn cf (at_ us) a b := sym_done (f := at_ ys) (g := at_ ys) (k := at_ zs) (h := at_ us) HIz.out HSz.out HI4.out HS4.out (fun i j x y z u => by first | exact HX.out i j x y z u | exact Int.not_lt.2 (HX.out i j x y z u))
                    exact ⟨rfl, us, HR4.out, i3, i4⟩
                  | false =>
                    go_wp2_with fail
                    go_end0
                    have HE2 := HE.out
                    have i1 : In a b (at_ ys) (at_ zs) := HIz.out.wide (Nat.le_refl _) (by omega)
                    have i3 : In a b (at_ xs) (at_ zs) := In.trans HIn.out i1
                    refine ⟨rfl, zs, HR.out, i3, ?_⟩
                    refine sym_done (f := at_ ys) (g := at_ ys) (k := at_ zs) (h := at_ zs) HIz.out HSz.out (In.refl mid b (at_ zs)) ?_ (fun i j x y z u => by first | exact HX.out i j x y z u | exact Int.not_lt.2 (HX.out i j x y z u))
                    rcases HNo.out (by first | rfl | trivial) with h | h
                    · obtain rfl : mid = e := by omega
                      exact HO4.out
                    · obtain rfl : e = b := by omega
                      exact HO3.out
theorem sym_all (cf : Q → Q → Int) (hp : Pre cf) (f : FuncId) (fn : Func) (hf : Try.prog.funcs[f]? = some fn) (hname : (fn.name == "runtime.NumGoroutine") = false) (hbody : fn.body.isSome = true) (g c n : Nat) (base : Nat) (ok : Nat → Prop) (hn : n ≤ 1152921504606846976) : ∀ (N a m b : Nat) (xs : List Q) (w : World), b - a < N → a < m → m < b → b ≤ n →
    kq.R 40 w base ok (.slice (some ⟨g, 0, none⟩) n c) xs → CmpOk f cf w g xs → SrtOn cf (at_ xs) a m → SrtOn cf (at_ xs) m b →
    Calls Try.prog 58 #[.slice (some ⟨g, 0, none⟩) n c, .int .i64 a, .int .i64 m, .int .i64 b, .func (.func f) #[] #[]] w fun e w' => e = .returned (.tuple #[]) ∧ ∃ ys, RS w w' base ok g n c xs ys ∧ In a b (at_ xs) (at_ ys) ∧ SrtOn cf (at_ ys) a b
  | 0, a, m, b, xs, w, h, _, _, _, _, _, _, _ => absurd h (Nat.not_lt_zero _)
  | N + 1, a, m, b, xs, w, hN, ham, hmb, hb, hrow, hcmp, h1, h2 => by
    by_cases c1 : m = a + 1
    · exact sym1_calls cf hp f fn hf hname hbody g c n base ok hn a m b xs w hrow hcmp h1 h2 c1 hmb hb
    · by_cases c2 : b = m + 1
      · exact sym2_calls cf hp f fn hf hname hbody g c n base ok hn a m b xs w hrow hcmp h1 h2 (by omega) c2 hb
      · exact sym3_calls cf hp f fn hf hname hbody g c n base ok hn a m b xs w hrow hcmp h1 h2 (by omega) (by omega) hb (fun a' m' b' xs' w' h => sym_all cf hp f fn hf hname hbody g c n base ok hn N a' m' b' xs' w' (by omega))
end Go.Proofs.Ytfeeahjaeapkoaa.Ext
end

section
namespace Go.Proofs.Ytfeeahjaeapkoaa.Ext
set_option linter.unusedVariables false
set_option linter.unusedSimpArgs false
open Go.RowKit Go.Proofs.YtfeeahjaeapkoaaW.PrintWords Go.Proofs.YtfeeahjaeapkoaaW.PrintLast Go.Proofs.YtfeeahjaeapkoaaW.PrintMore Go.Proofs.Ytfeeahjaeapkoaa.Lib
def Blk (cf : Q → Q → Int) (f : Nat → Q) (k h : Nat) : Prop := ∀ q i j, q * k ≤ i → i ≤ j → j < q * k + k → j < h → ¬ cf (f j) (f i) < 0
theorem Blk.on {cf : Q → Q → Int} {f : Nat → Q} {k h : Nat} (hb : Blk cf f k h) (q : Nat) {b : Nat} (h1 : b ≤ q * k + k) (h2 : b ≤ h) : SrtOn cf f (q * k) b := fun i j x y z => hb q i j x y (by omega) (by omega)
theorem Blk.zero (cf : Q → Q → Int) (f : Nat → Q) (k : Nat) : Blk cf f k 0 := fun _ _ _ _ _ _ h => absurd h (Nat.not_lt_zero _)
theorem Blk.one {cf : Q → Q → Int} {f : Nat → Q} {k h : Nat} (hb : Blk cf f k h) (hk : h ≤ k) : SrtOn cf f 0 h := fun i j x y z => hb 0 i j (by omega) y (by omega) z
theorem Blk.next {cf : Q → Q → Int} {f g : Nat → Q} {k a b q : Nat} (ha : a = q * k) (hb : b ≤ a + k) (h : Blk cf f k a) (hi : In a b f g) (hs : SrtOn cf g a b) : Blk cf g k b := fun q2 i j x y z u => by
  rcases Nat.lt_trichotomy q2 q with h1 | h1 | h1
  · have e : q2 * k + k ≤ q * k := by have := Nat.mul_le_mul_right k (show q2 + 1 ≤ q from h1); rwa [Nat.succ_mul] at this
    rw [hi.out i (by omega), hi.out j (by omega)]
    exact h q2 i j x y z (by omega)
  · subst h1; exact hs i j (by omega) y u
  · have e : q * k + k ≤ q2 * k := by have := Nat.mul_le_mul_right k (show q + 1 ≤ q2 from h1); rwa [Nat.succ_mul] at this
    omega
theorem insI_range {cf : Q → Q → Int} (hp : Pre cf) : ∀ (n : Nat) (A t R B : List Q), R.length = n → t.Pairwise (fun y z => ¬ cf y z < 0) → ∃ s : List Q, insI cf A.length n (A.length + t.length) (A ++ t.reverse ++ (R ++ B)) = A ++ s.reverse ++ B ∧ s.Pairwise (fun y z => ¬ cf y z < 0) ∧ s.Perm (R ++ t)
  | 0, A, t, R, B, hR, ht => by
    have e : R = [] := List.eq_nil_of_length_eq_zero hR
    subst e
    exact ⟨t, by rw [insI, List.nil_append], ht, List.Perm.refl _⟩
  | n + 1, A, t, R, B, hR, ht => by
    obtain ⟨x, r, rfl⟩ : ∃ x r, R = x :: r := by
      cases R with
      | nil => cases hR
      | cons x r => exact ⟨x, r, rfl⟩
    have h1 := insJ_rev cf x t A (r ++ B)
    have hl : (insRev cf x t).length = t.length + 1 := by
      have := congrArg List.length h1
      rw [insJ_length] at this
      simp at this
      omega
    have hperm : ∀ t : List Q, (insRev cf x t).Perm (x :: t) := by
      intro t
      induction t with
      | nil => exact List.Perm.refl _
      | cons y t ih =>
        rw [insRev]
        split
        · exact (List.Perm.cons y ih).trans (List.Perm.swap x y t)
        · exact List.Perm.refl _
    obtain ⟨s, h2, h3, h4⟩ := insI_range hp n A (insRev cf x t) r B (by simpa using hR) (insRev_desc hp x t ht)
    refine ⟨s, ?_, h3, h4.trans ((List.Perm.append_left r (hperm t)).trans ?_)⟩
    · rw [insI, show A ++ t.reverse ++ (x :: r ++ B) = A ++ t.reverse ++ x :: (r ++ B) from rfl, h1, show A.length + t.length + 1 = A.length + (insRev cf x t).length by omega]
      exact h2
    · exact List.perm_middle
theorem getD_mid {A M B : List Q} {i : Nat} (h1 : A.length ≤ i) (h2 : i < A.length + M.length) : (A ++ M ++ B).getD i zQ = M.getD (i - A.length) zQ := by
  rw [List.getD_eq_getElem?_getD, List.getElem?_append_left (by rw [List.length_append]; omega), List.getElem?_append_right h1, ← List.getD_eq_getElem?_getD]
theorem getD_out {A M M' B : List Q} {i : Nat} (hl : M.length = M'.length) (h : i < A.length ∨ A.length + M.length ≤ i) : (A ++ M ++ B).getD i zQ = (A ++ M' ++ B).getD i zQ := by
  rw [List.getD_eq_getElem?_getD, List.getD_eq_getElem?_getD]
  by_cases c : i < A.length
  · rw [List.append_assoc, List.append_assoc, List.getElem?_append_left c, List.getElem?_append_left c]
  · rw [List.getElem?_append_right (by rw [List.length_append]; omega), List.getElem?_append_right (by rw [List.length_append]; omega), List.length_append, List.length_append, hl]
theorem ins_range {cf : Q → Q → Int} (hp : Pre cf) (xs : List Q) (a b : Nat) (hab : a ≤ b) (hb : b ≤ xs.length) : In a b (at_ xs) (at_ (insI cf a (b - (a + 1)) (a + 1) xs)) ∧ SrtOn cf (at_ (insI cf a (b - (a + 1)) (a + 1) xs)) a b := by
  by_cases c : b ≤ a + 1
  · rw [show b - (a + 1) = 0 by omega, insI]
    exact ⟨In.refl _ _ _, fun i j x y z => by
      obtain rfl : i = j := by omega
      exact fun h => hp.asym _ _ h h⟩
  · have ha : a < xs.length := by omega
    have e : xs = xs.take a ++ [xs[a]].reverse ++ ((xs.drop (a + 1)).take (b - (a + 1)) ++ xs.drop b) := by
      have e2 : (xs.drop (a + 1)).drop (b - (a + 1)) = xs.drop b := by rw [List.drop_drop, show a + 1 + (b - (a + 1)) = b by omega]
      rw [← e2, List.take_append_drop, List.reverse_singleton, List.append_assoc, List.singleton_append, ← List.drop_eq_getElem_cons ha, List.take_append_drop]
    have hA : (xs.take a).length = a := by rw [List.length_take]; omega
    have hR : ((xs.drop (a + 1)).take (b - (a + 1))).length = b - (a + 1) := by rw [List.length_take, List.length_drop]; omega
    obtain ⟨s, h1, h2, h3⟩ := insI_range hp (b - (a + 1)) (xs.take a) [xs[a]] _ (xs.drop b) hR (List.pairwise_singleton _ _)
    rw [hA, List.length_singleton, ← e] at h1
    have hs : s.length = b - a := by have := h3.length_eq; simp at this; omega
    have e2 : xs = xs.take a ++ (([xs[a]].reverse) ++ (xs.drop (a + 1)).take (b - (a + 1))) ++ xs.drop b := by
      conv => lhs; rw [e]
      simp only [List.append_assoc]
    have hm : (([xs[a]].reverse) ++ (xs.drop (a + 1)).take (b - (a + 1))).length = b - a := by rw [List.length_append, hR]; simp; omega
    have hmem : ∀ z, z ∈ s.reverse → z ∈ (([xs[a]].reverse) ++ (xs.drop (a + 1)).take (b - (a + 1))) := fun z hz => by
      have := h3.mem_iff.1 (List.mem_reverse.1 hz)
      simp at this ⊢
      exact this.symm
    rw [h1]
    generalize ([xs[a]].reverse) ++ (xs.drop (a + 1)).take (b - (a + 1)) = M at *
    generalize xs.take a = A at *
    generalize xs.drop b = B at *
    subst hA
    have hsr : s.reverse.length = b - A.length := by rw [List.length_reverse]; exact hs
    refine ⟨⟨fun i hi => ?_, fun i x y => ?_⟩, fun i j x y z => ?_⟩
    · show (A ++ s.reverse ++ B).getD i zQ = xs.getD i zQ
      rw [e2]
      exact getD_out (by omega) (by omega)
    · have : (A ++ s.reverse ++ B).getD i zQ ∈ M := by
        rw [getD_mid x (by omega)]
        apply hmem
        rw [List.getD_eq_getElem?_getD, List.getElem?_eq_getElem (by omega)]
        exact List.getElem_mem _
      obtain ⟨k, hk, hk2⟩ := List.getElem_of_mem this
      refine ⟨A.length + k, by omega, by omega, ?_⟩
      have r : (A ++ M ++ B).getD (A.length + k) zQ = M[k] := by rw [getD_mid (by omega) (by omega), Nat.add_sub_cancel_left, List.getD_eq_getElem?_getD, List.getElem?_eq_getElem hk]; rfl
      show (A ++ s.reverse ++ B).getD i zQ = xs.getD (A.length + k) zQ
      rw [e2, r]
      exact hk2.symm
    · show ¬ cf ((A ++ s.reverse ++ B).getD j zQ) ((A ++ s.reverse ++ B).getD i zQ) < 0
      rw [getD_mid (by omega) (by omega), getD_mid x (by omega)]
      by_cases e3 : i = j
      · subst e3; exact fun h => hp.asym _ _ h h
      · have hpw : s.reverse.Pairwise (fun x y => ¬ cf y x < 0) := by rw [List.pairwise_reverse]; exact h2
        have := List.pairwise_iff_getElem.1 hpw (i - A.length) (j - A.length) (by omega) (by omega) (by omega)
        rw [List.getD_eq_getElem?_getD, List.getElem?_eq_getElem (by omega), List.getD_eq_getElem?_getD, List.getElem?_eq_getElem (by omega)]
        exact this
end Go.Proofs.Ytfeeahjaeapkoaa.Ext
end

section
namespace Go.Proofs.Ytfeeahjaeapkoaa.Ext
set_option linter.unusedVariables false
set_option linter.unusedSimpArgs false
open Go.RowKit Go.Proofs.YtfeeahjaeapkoaaW.PrintWords Go.Proofs.YtfeeahjaeapkoaaW.PrintLast Go.Proofs.YtfeeahjaeapkoaaW.PrintMore Go.Proofs.Ytfeeahjaeapkoaa.Lib
inductive RelS (cf : Q → Q → Int) (w : World) (base : Nat) (ok : Nat → Prop) (g n c : Nat) (xs : List Q) (k : Nat) (v1 v2 : Value) (w' : World) : Prop
  | mk (q a b : Nat) (ys : List Q) (e1 : v1 = .int .i64 a) (e2 : v2 = .int .i64 b) (ha : a = q * k) (hb : b = a + k) (hn : a ≤ n) (hrs : RS w w' base ok g n c xs ys) (hd : Blk cf (at_ ys) k a)
def Rest (cf : Q → Q → Int) (f : Nat → Q) (a k n : Nat) : Prop := ∀ p i j, a ≤ i → p * k ≤ i → i ≤ j → j < p * k + k → j < n → ¬ cf (f j) (f i) < 0
inductive RelM (cf : Q → Q → Int) (w : World) (base : Nat) (ok : Nat → Prop) (g n c : Nat) (xs : List Q) (k0 k2 : Nat) (v1 v2 : Value) (w' : World) : Prop
  | mk (q a b : Nat) (ys : List Q) (e1 : v1 = .int .i64 a) (e2 : v2 = .int .i64 b) (ha : a = q * k2) (hb : b = a + k2) (hn : a ≤ n) (hrs : RS w w' base ok g n c xs ys) (hd : Blk cf (at_ ys) k2 a) (ho : Rest cf (at_ ys) a k0 n)
inductive RelO (cf : Q → Q → Int) (w : World) (base : Nat) (ok : Nat → Prop) (g n c : Nat) (xs : List Q) (v1 : Value) (w' : World) : Prop
  | mk (k : Nat) (ys : List Q) (e1 : v1 = .int .i64 k) (hk : 20 ≤ k) (hk2 : k ≤ 2 * n + 20) (hrs : RS w w' base ok g n c xs ys) (hd : Blk cf (at_ ys) k n)
theorem two_k (q k : Nat) : q * (2 * k) = 2 * q * k := by rw [← Nat.mul_assoc, Nat.mul_comm q 2]
theorem succ_k (q k : Nat) : (q + 1) * k = q * k + k := Nat.succ_mul q k
theorem merge_first {cf : Q → Q → Int} {f : Nat → Q} {q a k n : Nat} (ha : a = q * (2 * k)) (hn : a + k ≤ n) (ho : Rest cf f a k n) : SrtOn cf f a (a + k) := fun i j x y z => ho (2 * q) i j x (by rw [← two_k, ← ha]; exact x) y (by rw [← two_k, ← ha]; exact z) (by omega)
theorem merge_second {cf : Q → Q → Int} {f : Nat → Q} {q a b k n : Nat} (ha : a = q * (2 * k)) (hb : b ≤ a + 2 * k) (hn : b ≤ n) (ho : Rest cf f a k n) : SrtOn cf f (a + k) b := fun i j x y z => ho (2 * q + 1) i j (by omega) (by rw [succ_k, ← two_k, ← ha]; exact x) y (by rw [succ_k, ← two_k, ← ha]; omega) (by omega)
theorem merge_last {cf : Q → Q → Int} {f : Nat → Q} {q a k n : Nat} (ha : a = q * (2 * k)) (hn : n ≤ a + k) (ho : Rest cf f a k n) : SrtOn cf f a n := fun i j x y z => ho (2 * q) i j x (by rw [← two_k, ← ha]; exact x) y (by rw [← two_k, ← ha]; omega) z
theorem merge_rest {cf : Q → Q → Int} {f g : Nat → Q} {a b k n : Nat} (h : In a b f g) (ho : Rest cf f a k n) (hab : a ≤ b)   : Rest cf g b k n := fun p i j x y z u v => by
  rw [h.out i (.inr x), h.out j (.inr (by omega))]; exact ho p i j (by omega) y z u v
set_option maxRecDepth 100000 in
set_option maxHeartbeats 3200000 in
theorem stable_all (cf : Q → Q → Int) (hp : Pre cf) (f : FuncId) (fn : Func) (hf : Try.prog.funcs[f]? = some fn) (hname : (fn.name == "runtime.NumGoroutine") = false) (hbody : fn.body.isSome = true) (g c n : Nat) (base : Nat) (ok : Nat → Prop) (hn : n ≤ 1152921504606846976) (xs : List Q) (w : World)
    (hrow : kq.R 40 w base ok (.slice (some ⟨g, 0, none⟩) n c) xs) (hcmp : CmpOk f cf w g xs) :
    Calls Try.prog 52 #[.slice (some ⟨g, 0, none⟩) n c, .int .i64 n, .func (.func f) #[] #[]] w fun e w' => e = .returned (.tuple #[]) ∧ ∃ ys, RS w w' base ok g n c xs ys ∧ SrtOn cf (at_ ys) 0 n := by
  have HCmp := Aside0.mk hcmp
  have HP := Aside0.mk hp
  have HR := Aside0.mk (RS.refl hrow)
  have HIns := Aside0.mk (fun (a b : Nat) (ys : List Q) (w' : World) (hr : RS w w' base ok g n c xs ys) (hab : a ≤ b) (hb : b ≤ n) => ins_calls cf f fn hf hname hbody g c n a b ys w' base ok hr.row hab hb hn (hcmp.next hr) (RS.refl hr.row).grown)
  have HSym := Aside0.mk (fun (a m b : Nat) (ys : List Q) (w' : World) (hr : RS w w' base ok g n c xs ys) (ham : a < m) (hmb : m < b) (hb : b ≤ n) (h1 : SrtOn cf (at_ ys) a m) (h2 : SrtOn cf (at_ ys) m b) => sym_all cf hp f fn hf hname hbody g c n base ok hn (b - a + 1) a m b ys w' (by omega) ham hmb hb hr.row (hcmp.next hr) h1 h2)
  clear hf hname hbody hcmp hrow hp
  go_enter Try.func52, Try.ntmps52
  go_wp2_with fail
  go_loopw [7, 8] (fun v7 v8 w' => RelS cf w base ok g n c xs 20 v7 v8 w') (fun v7 _ _ => n - (intOf v7).toNat)
  case atStart => exact .mk 0 0 20 xs rfl rfl rfl rfl (Nat.zero_le _) HR.out (Blk.zero _ _ _)
  case round =>
    clear HR
    obtain ⟨q, a, b, ys, rfl, rfl, ha, hb, han, hR, hD⟩ := hrel
    have HR := Aside0.mk hR
    have HD := Aside0.mk hD
    have HA := Aside0.mk ha
    have HB := Aside0.mk hb
    clear hR hD ha hb
    by_cases hc : b ≤ n
    · have hci : (b : Int) ≤ (n : Int) := by omega
      have HC := Aside0.mk hc
      go_wp2_with (first | (go_at_call 57; refine (HIns.out a b ys _ HR.out (by have := HB.out; omega) HC.out).mono ?_; rintro e w4 ⟨rfl, hr4⟩; have HR4 := Aside0.mk (HR.out.trans hr4); clear hr4) | fail)
      go_roundw
      case rel => exact .mk (q + 1) b (b + 20) _ rfl (by go_num) (by have := HA.out; have := HB.out; omega) rfl HC.out HR4.out (by
        have hi := ins_range HP.out ys a b (by have := HB.out; omega) (by rw [HR.out.len]; exact HC.out)
        exact Blk.next HA.out (by have := HB.out; omega) HD.out hi.1 hi.2)
      case measure => have := HB.out; simp [intOf]; omega
    · have hci : decide ((b : Int) ≤ (n : Int)) = false := decide_eq_false (by omega)
      have hcj : decide (b ≤ n) = false := decide_eq_false hc
      have HC := Aside0.mk hc
      have hck : (n : Int) < (b : Int) := by omega
      clear hc
      go_wp2_with (first | (go_at_call 57; refine (HIns.out a n ys _ HR.out han (Nat.le_refl _)).mono ?_; rintro e w4 ⟨rfl, hr4⟩; have HR4 := Aside0.mk (HR.out.trans hr4); clear hr4) | fail)
      have HD4 := Aside0.mk (show Blk cf (at_ (insI cf a (n - (a + 1)) (a + 1) ys)) 20 n by
        have hi := ins_range HP.out ys a n han (by rw [HR.out.len]; exact Nat.le_refl _)
        exact Blk.next HA.out (by have := HB.out; have := HC.out; omega) HD.out hi.1 hi.2)
      clear hci hcj hck HR HD HA HB HC han
      generalize insI cf a (n - (a + 1)) (a + 1) ys = zs at *
      go_wp2_with fail
      go_loopw [6] (fun v6 w' => RelO cf w base ok g n c xs v6 w') (fun v6 _ => n - (intOf v6).toNat)
      case atStart => exact .mk 20 zs rfl (Nat.le_refl _) (by omega) HR4.out HD4.out
      case round => as_aux_lemma =>
        clear HR4 HD4
        obtain ⟨k, us, rfl, hk20, hk2n, hR, hD⟩ := hrel
        have HR := Aside0.mk hR
        have HD := Aside0.mk hD
        clear hR hD
        by_cases hkn : k < n
        · have hkn2 : (k : Int) < (n : Int) := by omega
          obtain ⟨k2, hk2⟩ : ∃ x, x = 2 * k := ⟨_, rfl⟩
          have HK2 := Aside0.mk hk2
          have e1 : 2 * (k : Int) = (k2 : Int) := by omega
          have e2 : (k : Int) * 2 = (k2 : Int) := by omega
          have hk3 : k2 ≤ 2305843009213693952 := by omega
          have HO := Aside0.mk (show Rest cf (at_ us) 0 k n from fun p i j _ y z u v => HD.out p i j y z u v)
          clear hk2
          go_wp2_with fail
          go_loopw [7, 8] (fun v7 v8 w' => RelM cf w base ok g n c xs k k2 v7 v8 w') (fun v7 _ _ => n - (intOf v7).toNat)
          case atStart => exact .mk 0 0 k2 us rfl rfl (Nat.zero_mul _).symm (Nat.zero_add _).symm (Nat.zero_le _) HR.out (Blk.zero _ _ _) HO.out
          case round => as_aux_lemma =>
            clear HR HD HO
            obtain ⟨q, a, b, ys, rfl, rfl, ha, hb, han, hR, hD, hO⟩ := hrel
            have HR := Aside0.mk hR
            have HD := Aside0.mk hD
            have HO := Aside0.mk hO
            have HA := Aside0.mk (show a = q * (2 * k) by rw [← HK2.out]; exact ha)
            have HA0 := Aside0.mk ha
            have HB := Aside0.mk hb
            obtain ⟨m, hm⟩ : ∃ x, x = a + k := ⟨_, rfl⟩
            have HM := Aside0.mk hm
            have em : (a : Int) + (k : Int) = (m : Int) := by omega
            have HBn := Aside0.mk (show b ≤ 4611686018427387904 by omega)
            clear hR hD hO ha hb hm
            by_cases hc : b ≤ n
            · have hci : (b : Int) ≤ (n : Int) := by omega
              have HC := Aside0.mk hc
              have HS := Aside0.mk (fun wx (hr : RS w wx base ok g n c xs ys) => HSym.out a m b ys wx hr (by have := HM.out; omega) (by have := HM.out; have := HB.out; have := HK2.out; omega) HC.out (by rw [HM.out]; exact merge_first HA.out (by have := HB.out; have := HK2.out; have := HC.out; omega) HO.out) (by rw [HM.out]; exact merge_second HA.out (by have := HB.out; have := HK2.out; omega) HC.out HO.out))
              go_wp2_with (first | (go_at_call 58; refine (HS.out _ HR.out).mono ?_; rintro e w4 ⟨rfl, zs, hr4, hi4, hs4⟩; have HR4 := Aside0.mk (HR.out.trans hr4); have HI4 := Aside0.mk hi4; have HS4 := Aside0.mk hs4; clear hr4 hi4 hs4) | fail)
              go_roundw
              case rel => exact .mk (q + 1) b (b + k2) zs rfl (by first | rfl | go_num) (by rw [Nat.succ_mul, ← HA0.out]; exact HB.out) rfl HC.out HR4.out (Blk.next HA0.out (by have := HB.out; omega) HD.out HI4.out HS4.out) (merge_rest HI4.out HO.out (by have := HB.out; omega))
              case measure => have := HB.out; have := HK2.out; simp [intOf]; omega
            · have hci : decide ((b : Int) ≤ (n : Int)) = false := decide_eq_false (by omega)
              have hcj : decide (b ≤ n) = false := decide_eq_false hc
              have HC := Aside0.mk hc
              have hck : (n : Int) < (b : Int) := by omega
              clear hc
              by_cases hd : m < n
              · have hdi : (m : Int) < (n : Int) := by omega
                have HDd := Aside0.mk hd
                have HS := Aside0.mk (fun wx (hr : RS w wx base ok g n c xs ys) => HSym.out a m n ys wx hr (by have := HM.out; omega) HDd.out (Nat.le_refl _) (by rw [HM.out]; exact merge_first HA.out (by have := HM.out; have := HDd.out; omega) HO.out) (by rw [HM.out]; exact merge_second HA.out (by have := HB.out; have := HK2.out; have := HC.out; omega) (Nat.le_refl _) HO.out))
                go_wp2_with (first | (go_at_call 58; refine (HS.out _ HR.out).mono ?_; rintro e w4 ⟨rfl, zs, hr4, hi4, hs4⟩; have HR4 := Aside0.mk (HR.out.trans hr4); have HI4 := Aside0.mk hi4; have HS4 := Aside0.mk hs4; clear hr4 hi4 hs4) | fail)
                go_roundw
                case rel => exact .mk k2 zs (by first | rfl | go_num) (by have := HK2.out; omega) (by have := HK2.out; omega) HR4.out (Blk.next HA0.out (by have := HB.out; have := HC.out; omega) HD.out HI4.out HS4.out)
                case measure => have := HK2.out; simp [intOf]; omega
              · have hdi : decide ((m : Int) < (n : Int)) = false := decide_eq_false (by omega)
                have hdj : decide (m < n) = false := decide_eq_false hd
                have HDd := Aside0.mk hd
                have hdk : (n : Int) ≤ (m : Int) := by omega
                clear hd
                go_wp2_with fail
                go_roundw
                case rel => exact .mk k2 ys (by first | rfl | go_num) (by have := HK2.out; omega) (by have := HK2.out; omega) HR.out (Blk.next HA0.out (by have := HB.out; have := HC.out; omega) HD.out (In.refl _ _ _) (merge_last HA.out (by have := HM.out; have := HDd.out; omega) HO.out))
                case measure => have := HK2.out; simp [intOf]; omega
        · have hkn2 : decide ((k : Int) < (n : Int)) = false := decide_eq_false (by omega)
          have hkn3 : decide (k < n) = false := decide_eq_false hkn
          have HKn := Aside0.mk hkn
          have hkn4 : (n : Int) ≤ (k : Int) := by omega
          clear hkn
          go_wp2_with fail
          go_end0
          exact ⟨rfl, us, HR.out, HD.out.one (by have := HKn.out; omega)⟩
theorem srt_pw {cf : Q → Q → Int} : ∀ {ys : List Q}, SrtOn cf (at_ ys) 0 ys.length → ys.Pairwise (fun x y => ¬ cf y x < 0) := fun {ys} h => by
  rw [List.pairwise_iff_getElem]
  intro i j hi hj hij
  have := h i j (Nat.zero_le _) (Nat.le_of_lt hij) hj
  have e : ∀ (k : Nat) (hk : k < ys.length), at_ ys k = ys[k] := fun k hk => by show ys.getD k zQ = _; rw [List.getD_eq_getElem?_getD, List.getElem?_eq_getElem hk]; rfl
  rwa [e i hi, e j hj] at this
set_option maxRecDepth 100000 in
set_option maxHeartbeats 400000 in
theorem sort_all (cf : Q → Q → Int) (hp : Pre cf) (f : FuncId) (fn : Func) (hf : Try.prog.funcs[f]? = some fn) (hname : (fn.name == "runtime.NumGoroutine") = false) (hbody : fn.body.isSome = true) (g c n : Nat) (xs : List Q) (w : World) (base : Nat) (ok : Nat → Prop)
    (hrow : kq.R 40 w base ok (.slice (some ⟨g, 0, none⟩) n c) xs) (hn : n ≤ 1152921504606846976) (hcmp : CmpOk f cf w g xs) :
    Calls Try.prog 45 #[.slice (some ⟨g, 0, none⟩) n c, .func (.func f) #[] #[]] w fun e w' => e = .returned (.tuple #[]) ∧ ∃ zs, RS w w' base ok g n c xs zs ∧ zs.Pairwise (fun x y => ¬ cf y x < 0) := by
  have HI := Aside0.mk (stable_all cf hp f fn hf hname hbody g c n base ok hn xs w hrow hcmp)
  clear hf hname hbody hrow hcmp hp
  go_enter Try.func45, Try.ntmps45
  go_wp2_with fail
  refine HI.out.mono ?_
  rintro e w2 ⟨rfl, zs, hr, hs⟩
  have HR := Aside0.mk hr
  have HS := Aside0.mk hs
  clear hr hs HI
  go_wp2_with fail
  go_end0
  exact ⟨rfl, zs, HR.out, (srt_pw (by rw [HR.out.len]; exact HS.out)).imp (fun h => Int.not_lt.1 h)⟩
end Go.Proofs.Ytfeeahjaeapkoaa.Ext
end

section
namespace Go.Proofs.Ytfeeahjaeapkoaa.Ext
def sortK : Nat := 1099511627776
theorem sortK_le : sortK ≤ 1099511627776 := Nat.le_refl _
theorem sort_ok : SortUpto sortK := fun cf hp f fn hf hname hbody g c n xs w base ok hrow hn hcmp => sort_all cf hp f fn hf hname hbody g c n xs w base ok hrow (Nat.le_trans hn (by decide)) hcmp
end Go.Proofs.Ytfeeahjaeapkoaa.Ext
end

section
namespace Go.Proofs.Ytfeeahjaeapkoaa.P
set_option linter.unusedVariables false
set_option linter.unusedSimpArgs false
open Go.RowKit Go.Proofs.YtfeeahjaeapkoaaW.PrintWords Go.Proofs.YtfeeahjaeapkoaaW.PrintLast Go.Proofs.YtfeeahjaeapkoaaW.PrintMore Go.Proofs.Ytfeeahjaeapkoaa.Lib Go.Proofs.Ytfeeahjaeapkoaa.Ext
def small40 (x : S40) : Bool := decide (x.f0.f1.length ≤ 8796093022208) && decide (x.f0.f2.length ≤ 17592186044416)
theorem small40_of {l : List S40} (h : l.all small40 = true) : ∀ x ∈ l, Small (m40 x) := fun x hx => by
  have := List.all_eq_true.1 h x hx
  unfold small40 at this
  simp only [Bool.and_eq_true, decide_eq_true_eq] at this
  exact this
def bag40 (l : List S40) (tk : F → Bool) : List S40 := (bagOf ((l.map m40).filter fun x => tk x.1)).map s40
theorem bag40_calls (n c : Nat) (A : Option Addr) (l : List S40) (f : FuncId) (cap : Array Value) (tk : F → Bool) (w : World) (hC : Kd.C k40 w A n l) (hn : n ≤ sortK) (hs : l.all small40 = true)
    (hf : ∃ fn, Try.prog.funcs[f]? = some fn ∧ (fn.name == "runtime.NumGoroutine") = false ∧ fn.body.isSome = true)
    (htk : ∀ w', Below w.heap.size w w' → ∀ q x, Fl w' q x → Calls Try.prog f (#[] ++ #[qV q] ++ cap) w' fun e w'' => e = .returned (.bool (tk x)) ∧ Below w'.heap.size w' w'') :
    Calls Try.prog 33 #[.slice A n c, .func (.func f) #[] cap] w fun e w' => ∃ v, e = .returned v ∧ Kd.R k40 40 w' w.heap.size (fun _ => True) v (bag40 l tk) ∧ Below w.heap.size w w' := by
  obtain ⟨qs, h1, h2⟩ := flat40 hC (small40_of hs)
  exact bag_known sortK sortK_le sort_ok n c A qs (l.map m40) f cap tk w h1 hn h2 hf htk
end Go.Proofs.Ytfeeahjaeapkoaa.P
end

section
namespace Go.Proofs.Ytfeeahjaeapkoaa.P
open Go.RowKit Go.Proofs.YtfeeahjaeapkoaaW.PrintWords Go.Proofs.YtfeeahjaeapkoaaW.PrintLast Go.Proofs.YtfeeahjaeapkoaaW.PrintMore
attribute [local go_sem] max2_int min2_int max_two min_two max_three min_three max_four min_four   -- for this text's walks alone
set_option linter.unusedVariables false
set_option linter.unusedSimpArgs false
open Go.Proofs.Ytfeeahjaeapkoaa.Ext (q1_ q2_ q3_ bk_ bw_ sz_ ne_ bx_)
attribute [local go_sem high] Go.Proofs.Ytfeeahjaeapkoaa.Ext.gtr_str Go.Proofs.Ytfeeahjaeapkoaa.Ext.leq_str Go.Proofs.Ytfeeahjaeapkoaa.Ext.geq_str
def gristmillref04_Is.l0 : Nat → List (S40) → List (S40) → Int → Option (Bool)
 | 0, _, _, _ => none
 | k + 1, x0, x1, x5 => if x5 < (x0.length : Int) then (if 0 ≤ x5 then (if x5 < (x1.length : Int) then (if ((rd_T40 x0 x5).f1) = ((rd_T40 x1 x5).f1) then ((gristmillref04_Compare.f k ((rd_T40 x0 x5).f0.f0) ((rd_T40 x0 x5).f0.f1) ((rd_T40 x0 x5).f0.f2) ((rd_T40 x1 x5).f0.f0) ((rd_T40 x1 x5).f0.f1) ((rd_T40 x1 x5).f0.f2)).bind fun t181 => (if t181 = 0 then (gristmillref04_Is.l0 k x0 x1 (wrap64 (x5 + 1))) else (some false))) else (some false)) else (none)) else (none)) else (some true)
def gristmillref04_Is.f (k : Nat) (l0 : List (S40)) (l1 : List (S40)) : Option (Bool) := if (l0.length : Int) = (l1.length : Int) then (gristmillref04_Is.l0 k l0 l1 0) else (some false)
def gristmillref04_Is.T6 : Bool × List (List Nat × List Nat) := (true, [([], []), ([], []), ([0, 1], [0, 1]), ([2], [2]), ([3], [3]), ([], []), ([], []), ([5, 6], [5, 6]), ([7], [7]), ([8], [8]), ([4, 9], [4, 9]), ([10], [10]), ([11], [11]), ([11], [11]), ([12, 13, 11], [11, 12, 13]), ([14, 11], [11, 14]), ([15, 11], [11, 15]), ([11], [11]), ([11], [11]), ([17, 18, 11], [11, 17, 18]), ([19, 11], [11, 19]), ([20, 11], [11, 20]), ([16, 21, 11, 11], [11, 16, 21]), ([22, 11], [11, 22]), ([11, 23], [11, 23])])
def gristmillref04_Is.B6 : List Nat := [0, 0, 3, 7, 15, 0, 0, 96, 224, 480, 1023, 2047, 4095, 4095, 16383, 32767, 65535, 4095, 4095, 397311, 921599, 1970175, 4194303, 8388607, 16777215]
theorem gristmillref04_Is.tab6 : rtab .any (opsOf Try.f18 6) = gristmillref04_Is.T6 := by kernel_rfl
theorem gristmillref04_Is.bits6 : waitsOk gristmillref04_Is.T6.2 gristmillref04_Is.B6 = true := by kernel_rfl
set_option maxHeartbeats 8000000 in
set_option maxRecDepth 100000 in
theorem gristmillref04_Is.calls (k : Nat) (A0 : Option Addr) (c0 : Nat) (l0 : List (S40)) (A1 : Option Addr) (c1 : Nat) (l1 : List (S40)) (r : Bool) (w : World) (hr0 : Kd.C k40 w A0 l0.length l0) (hc0 : l0.length ≤ c0) (hr1 : Kd.C k40 w A1 l1.length l1) (hc1 : l1.length ≤ c1) (h : gristmillref04_Is.f k l0 l1 = some r) :
  Calls Try.prog 18 #[.slice A0 l0.length c0, .slice A1 l1.length c1] w fun e w' => e = .returned (.bool r) ∧ Below w.heap.size w w' := by
 have hu27 := Try.underlying27
 have HR0 := Aside0.mk hr0
 have HC0 := Aside0.mk hc0
 clear hr0 hc0
 have HR1 := Aside0.mk hr1
 have HC1 := Aside0.mk hc1
 clear hr1 hc1
 have HB := Aside0.mk (Below.refl w.heap.size w)
 have H : (if (l0.length : Int) = (l1.length : Int) then (gristmillref04_Is.l0 k l0 l1 0) else (some false)) = some r := h
 clear h
 by_cases c3 : (l0.length : Int) = (l1.length : Int)
 ·rw [if_pos c3] at H
  have c3b0 : ((l0.length : Int) == (l1.length : Int)) = true := beq_iff_eq.mpr c3
  have c3b1 : ((l0.length : Int) != (l1.length : Int)) = false := bne_eq_false_iff_eq.mpr c3
  have c3b2 : (l0.length == l1.length) = true := by first | simpa using c3 | (simp at c3 ⊢; omega)
  clear c3
  have H' := Aside0.mk H
  clear H
  go_enter Try.func18, Try.ntmps18
  go_wp2
  go_loopg [5] k (fun kq v5 w' => ∃ (x5_1 : Int), v5 = .int .i64 x5_1 ∧ Aside0 (gristmillref04_Is.l0 kq l0 l1 x5_1 = some r) ∧ Aside0 (kq ≤ k) ∧ Aside0 (Below w.heap.size w w'))
  case atStart => exact ⟨(0), (by first | rfl | (simp; done) | (simp [*]; done)), H', ⟨Nat.le_refl _⟩, ⟨by repeat (first | (with_reducible first | exact HB.out | apply below_alloc | apply pw_below_drewN | apply below_drew1) | exact HB.out)⟩⟩
  case round =>
   clear H'
   try clear c1
   try clear p2
   try clear c3
   try clear c3b0
   try clear c3b1
   try clear c3b2
   obtain ⟨x5_1, rfl, HA, HK1, HB⟩ := hrel
   cases gk with
   | zero => exact absurd HA.out (by simp [gristmillref04_Is.l0])
   | succ k1 =>
    have H := HA.out
    clear HA
    simp only [gristmillref04_Is.l0] at H
    by_cases c4 : x5_1 < (l0.length : Int)
    ·rw [if_pos c4] at H
     have c4b0 : decide (x5_1 < (l0.length : Int)) = true := decide_eq_true c4
     clear c4
     by_cases c5 : 0 ≤ x5_1
     ·rw [if_pos c5] at H
      have c5b0 : decide (0 ≤ x5_1) = true := decide_eq_true c5
      clear c5
      by_cases c6 : x5_1 < (l1.length : Int)
      ·rw [if_pos c6] at H
       have c6b0 : decide (x5_1 < (l1.length : Int)) = true := decide_eq_true c6
       clear c6
       by_cases c7 : ((rd_T40 l0 x5_1).f1) = ((rd_T40 l1 x5_1).f1)
       ·rw [if_pos c7] at H
        have c7b0 : (((rd_T40 l0 x5_1).f1) == ((rd_T40 l1 x5_1).f1)) = true := beq_iff_eq.mpr c7
        have c7b1 : (((rd_T40 l0 x5_1).f1) != ((rd_T40 l1 x5_1).f1)) = false := bne_eq_false_iff_eq.mpr c7
        clear c7
        replace H := Option.bind_eq_some_iff.mp H
        obtain ⟨t181, A80, H⟩ := H
        replace H : (if t181 = 0 then (gristmillref04_Is.l0 k1 l0 l1 (wrap64 (x5_1 + 1))) else (some false)) = some r := H
        have A8 := Aside0.mk A80
        clear A80
        by_cases c9 : t181 = 0
        ·rw [if_pos c9] at H
         have c9b0 : (t181 == 0) = true := beq_iff_eq.mpr c9
         have c9b1 : (t181 != 0) = false := bne_eq_false_iff_eq.mpr c9
         clear c9
         have H' := Aside0.mk H
         clear H
         try go_wp2
         have n0_ := Aside0.mk (below_drew1 HB.out)
         clear HB
         have HB := n0_
         clear n0_
         have p177 : 0 ≤ (x5_1 : Int) := of_decide_eq_true (by assumption)
         have q177 : x5_1 < (l0.length : Int) := of_decide_eq_true (by assumption)
         obtain ⟨ad177, A177_1, c177_1, A177_2, c177_2, e177, hx177_0, hx177_1, hx177_2, hx177_3, hl177_1, hi177_1, hl177_2, hi177_2⟩ := at_T40 HR0.out x5_1 p177 q177
         have hw177_3 := hx177_3
         have hw177_2 := hx177_2
         have hw177_1 := hx177_1
         have hw177_0 := hx177_0
         cases e177
         replace hx177_0 := pw_cell_below HB.out hx177_0
         replace hx177_1 := pw_cell_below HB.out hx177_1
         replace hx177_2 := pw_cell_below HB.out hx177_2
         replace hx177_3 := pw_cell_below HB.out hx177_3
         have HR177_1 := Aside0.mk hi177_1
         have HC177_1 := Aside0.mk hl177_1
         clear hi177_1 hl177_1
         have HR177_2 := Aside0.mk hi177_2
         have HC177_2 := Aside0.mk hl177_2
         clear hi177_2 hl177_2
         replace p177 := eq_true p177
         replace q177 := eq_true q177
         have p178 : 0 ≤ (x5_1 : Int) := of_decide_eq_true (by assumption)
         have q178 : x5_1 < (l1.length : Int) := of_decide_eq_true (by assumption)
         obtain ⟨ad178, A178_1, c178_1, A178_2, c178_2, e178, hx178_0, hx178_1, hx178_2, hx178_3, hl178_1, hi178_1, hl178_2, hi178_2⟩ := at_T40 HR1.out x5_1 p178 q178
         have hw178_3 := hx178_3
         have hw178_2 := hx178_2
         have hw178_1 := hx178_1
         have hw178_0 := hx178_0
         cases e178
         replace hx178_0 := pw_cell_below HB.out hx178_0
         replace hx178_1 := pw_cell_below HB.out hx178_1
         replace hx178_2 := pw_cell_below HB.out hx178_2
         replace hx178_3 := pw_cell_below HB.out hx178_3
         have HR178_1 := Aside0.mk hi178_1
         have HC178_1 := Aside0.mk hl178_1
         clear hi178_1 hl178_1
         have HR178_2 := Aside0.mk hi178_2
         have HC178_2 := Aside0.mk hl178_2
         clear hi178_2 hl178_2
         replace p178 := eq_true p178
         replace q178 := eq_true q178
         have p179 : 0 ≤ (x5_1 : Int) := of_decide_eq_true (by assumption)
         have q179 : x5_1 < (l0.length : Int) := of_decide_eq_true (by assumption)
         obtain ⟨ad179, A179_1, c179_1, A179_2, c179_2, e179, hx179_0, hx179_1, hx179_2, hx179_3, hl179_1, hi179_1, hl179_2, hi179_2⟩ := at_T40 HR0.out x5_1 p179 q179
         have hw179_3 := hx179_3
         have hw179_2 := hx179_2
         have hw179_1 := hx179_1
         have hw179_0 := hx179_0
         obtain rfl : ad177 = ad179 := (by injection e179)
         replace hx179_0 := pw_cell_below HB.out hx179_0
         replace hx179_1 := pw_cell_below HB.out hx179_1
         replace hx179_2 := pw_cell_below HB.out hx179_2
         replace hx179_3 := pw_cell_below HB.out hx179_3
         have HR179_1 := Aside0.mk hi179_1
         have HC179_1 := Aside0.mk hl179_1
         clear hi179_1 hl179_1
         have HR179_2 := Aside0.mk hi179_2
         have HC179_2 := Aside0.mk hl179_2
         clear hi179_2 hl179_2
         replace p179 := eq_true p179
         replace q179 := eq_true q179
         have ea_ := Option.some.inj (hx177_1.symm.trans hx179_1)
         injection ea_ with ea_ en_ ec_
         subst ea_
         subst ec_
         clear en_
         have ea_ := Option.some.inj (hx177_2.symm.trans hx179_2)
         injection ea_ with ea_ en_ ec_
         subst ea_
         subst ec_
         clear en_
         have p180 : 0 ≤ (x5_1 : Int) := of_decide_eq_true (by assumption)
         have q180 : x5_1 < (l1.length : Int) := of_decide_eq_true (by assumption)
         obtain ⟨ad180, A180_1, c180_1, A180_2, c180_2, e180, hx180_0, hx180_1, hx180_2, hx180_3, hl180_1, hi180_1, hl180_2, hi180_2⟩ := at_T40 HR1.out x5_1 p180 q180
         have hw180_3 := hx180_3
         have hw180_2 := hx180_2
         have hw180_1 := hx180_1
         have hw180_0 := hx180_0
         obtain rfl : ad178 = ad180 := (by injection e180)
         replace hx180_0 := pw_cell_below HB.out hx180_0
         replace hx180_1 := pw_cell_below HB.out hx180_1
         replace hx180_2 := pw_cell_below HB.out hx180_2
         replace hx180_3 := pw_cell_below HB.out hx180_3
         have HR180_1 := Aside0.mk hi180_1
         have HC180_1 := Aside0.mk hl180_1
         clear hi180_1 hl180_1
         have HR180_2 := Aside0.mk hi180_2
         have HC180_2 := Aside0.mk hl180_2
         clear hi180_2 hl180_2
         replace p180 := eq_true p180
         replace q180 := eq_true q180
         have ea_ := Option.some.inj (hx178_1.symm.trans hx180_1)
         injection ea_ with ea_ en_ ec_
         subst ea_
         subst ec_
         clear en_
         have ea_ := Option.some.inj (hx178_2.symm.trans hx180_2)
         injection ea_ with ea_ en_ ec_
         subst ea_
         subst ec_
         clear en_
         refine start_ (n := 25) (S := fun w' => w'.cell? (ad177.add ((x5_1).toNat * 4)) = some (.int .i64 ((rd_T40 l0 x5_1).f0.f0)) ∧ w'.cell? ⟨(ad177.add ((x5_1).toNat * 4)).block, (ad177.add ((x5_1).toNat * 4)).off + 1, none⟩ = some (.slice A177_1 ((rd_T40 l0 x5_1).f0.f1).length c177_1) ∧ w'.cell? ⟨(ad177.add ((x5_1).toNat * 4)).block, (ad177.add ((x5_1).toNat * 4)).off + 2, none⟩ = some (.slice A177_2 ((rd_T40 l0 x5_1).f0.f2).length c177_2) ∧ w'.cell? ⟨(ad177.add ((x5_1).toNat * 4)).block, (ad177.add ((x5_1).toNat * 4)).off + 3, none⟩ = some (.int .u64 ((rd_T40 l0 x5_1).f1)) ∧ w'.cell? (ad178.add ((x5_1).toNat * 4)) = some (.int .i64 ((rd_T40 l1 x5_1).f0.f0)) ∧ w'.cell? ⟨(ad178.add ((x5_1).toNat * 4)).block, (ad178.add ((x5_1).toNat * 4)).off + 1, none⟩ = some (.slice A178_1 ((rd_T40 l1 x5_1).f0.f1).length c178_1) ∧ w'.cell? ⟨(ad178.add ((x5_1).toNat * 4)).block, (ad178.add ((x5_1).toNat * 4)).off + 2, none⟩ = some (.slice A178_2 ((rd_T40 l1 x5_1).f0.f2).length c178_2) ∧ w'.cell? ⟨(ad178.add ((x5_1).toNat * 4)).block, (ad178.add ((x5_1).toNat * 4)).off + 3, none⟩ = some (.int .u64 ((rd_T40 l1 x5_1).f1)) ∧ w'.cell? (ad177.add ((x5_1).toNat * 4)) = some (.int .i64 ((rd_T40 l0 x5_1).f0.f0)) ∧ w'.cell? ⟨(ad177.add ((x5_1).toNat * 4)).block, (ad177.add ((x5_1).toNat * 4)).off + 1, none⟩ = some (.slice A177_1 ((rd_T40 l0 x5_1).f0.f1).length c177_1) ∧ w'.cell? ⟨(ad177.add ((x5_1).toNat * 4)).block, (ad177.add ((x5_1).toNat * 4)).off + 2, none⟩ = some (.slice A177_2 ((rd_T40 l0 x5_1).f0.f2).length c177_2) ∧ w'.cell? ⟨(ad177.add ((x5_1).toNat * 4)).block, (ad177.add ((x5_1).toNat * 4)).off + 3, none⟩ = some (.int .u64 ((rd_T40 l0 x5_1).f1)) ∧ w'.cell? (ad178.add ((x5_1).toNat * 4)) = some (.int .i64 ((rd_T40 l1 x5_1).f0.f0)) ∧ w'.cell? ⟨(ad178.add ((x5_1).toNat * 4)).block, (ad178.add ((x5_1).toNat * 4)).off + 1, none⟩ = some (.slice A178_1 ((rd_T40 l1 x5_1).f0.f1).length c178_1) ∧ w'.cell? ⟨(ad178.add ((x5_1).toNat * 4)).block, (ad178.add ((x5_1).toNat * 4)).off + 2, none⟩ = some (.slice A178_2 ((rd_T40 l1 x5_1).f0.f2).length c178_2) ∧ w'.cell? ⟨(ad178.add ((x5_1).toNat * 4)).block, (ad178.add ((x5_1).toNat * 4)).off + 3, none⟩ = some (.int .u64 ((rd_T40 l1 x5_1).f1))) (ds := []) #[false, false, false, false, false, false, false, false, false, false, false, false, false, false, false, false, false, false, false, false, false, false, false, false, false] (by kernel_rfl) rfl rfl ⟨(pw_cell_below HB.out hw177_0), (pw_cell_below HB.out hw177_1), (pw_cell_below HB.out hw177_2), (pw_cell_below HB.out hw177_3), (pw_cell_below HB.out hw178_0), (pw_cell_below HB.out hw178_1), (pw_cell_below HB.out hw178_2), (pw_cell_below HB.out hw178_3), (pw_cell_below HB.out hw179_0), (pw_cell_below HB.out hw179_1), (pw_cell_below HB.out hw179_2), (pw_cell_below HB.out hw179_3), (pw_cell_below HB.out hw180_0), (pw_cell_below HB.out hw180_1), (pw_cell_below HB.out hw180_2), (pw_cell_below HB.out hw180_3)⟩ (fun hHeld => ?_); refine with_tabW gristmillref04_Is.tab6 gristmillref04_Is.bits6 (fun HT_ HW_ => ?_)
         generalize wr.drew = w10 at HB HR177_1 HR177_2 HR178_1 HR178_2 HR179_1 HR179_2 HR180_1 HR180_2 hx177_0 hx177_1 hx177_2 hx177_3 hx178_0 hx178_1 hx178_2 hx178_3 hx179_0 hx179_1 hx179_2 hx179_3 hx180_0 hx180_1 hx180_2 hx180_3 hHeld ⊢
         refine pure_ (i := 0) (N := some 17) (v := ?_) (a' := ?_) #[true, false, false, false, false, false, false, false, false, false, false, false, false, false, false, false, false, false, false, false, false, false, false, false, false] rfl rfl (any_of HT_.out (by kernel_rfl)) (fun _ _ _ h => h) (Or.inl ⟨by rfl, ?_⟩) ?_ ?_
         rotate_left
         ·intro w'
          go_simp
          with_reducible rfl
         rotate_left
         ·simp only [Act.put, q1_, q2_, q3_, i64_w, i32_w]
          rfl
         refine pure_ (i := 1) (N := some 18) (v := ?_) (a' := ?_) #[true, true, false, false, false, false, false, false, false, false, false, false, false, false, false, false, false, false, false, false, false, false, false, false, false] rfl rfl (any_of HT_.out (by kernel_rfl)) (fun _ _ _ h => h) (Or.inl ⟨by rfl, ?_⟩) ?_ ?_
         rotate_left
         ·intro w'
          go_simp
          with_reducible rfl
         rotate_left
         ·simp only [Act.put, q1_, q2_, q3_, i64_w, i32_w]
          rfl
         refine pure_ (i := 2) (N := some 19) (v := ?_) (a' := ?_) #[true, true, true, false, false, false, false, false, false, false, false, false, false, false, false, false, false, false, false, false, false, false, false, false, false] rfl rfl (any_of HT_.out (by kernel_rfl)) (fun _ _ _ h => h) (Or.inl ⟨by rfl, ?_⟩) ?_ ?_
         rotate_left
         ·intro w'
          go_simp
          with_reducible rfl
         rotate_left
         ·simp only [Act.put, q1_, q2_, q3_, i64_w, i32_w]
          rfl
         refine pure_ (i := 3) (N := some 20) (v := ?_) (a' := ?_) #[true, true, true, true, false, false, false, false, false, false, false, false, false, false, false, false, false, false, false, false, false, false, false, false, false] rfl rfl (any_of HT_.out (by kernel_rfl)) (fun _ _ _ h => h) (Or.inl ⟨by rfl, ?_⟩) ?_ ?_
         rotate_left
         ·intro w'
          go_simp
          with_reducible rfl
         rotate_left
         ·simp only [Act.put, q1_, q2_, q3_, i64_w, i32_w]
          rfl
         refine pure_ (i := 5) (N := some 22) (v := ?_) (a' := ?_) #[true, true, true, true, false, true, false, false, false, false, false, false, false, false, false, false, false, false, false, false, false, false, false, false, false] rfl rfl (any_of HT_.out (by kernel_rfl)) (fun _ _ _ h => h) (Or.inl ⟨by rfl, ?_⟩) ?_ ?_
         rotate_left
         ·intro w'
          go_simp
          with_reducible rfl
         rotate_left
         ·simp only [Act.put, q1_, q2_, q3_, i64_w, i32_w]
          rfl
         refine pure_ (i := 6) (N := some 23) (v := ?_) (a' := ?_) #[true, true, true, true, false, true, true, false, false, false, false, false, false, false, false, false, false, false, false, false, false, false, false, false, false] rfl rfl (any_of HT_.out (by kernel_rfl)) (fun _ _ _ h => h) (Or.inl ⟨by rfl, ?_⟩) ?_ ?_
         rotate_left
         ·intro w'
          go_simp
          with_reducible rfl
         rotate_left
         ·simp only [Act.put, q1_, q2_, q3_, i64_w, i32_w]
          rfl
         refine pure_ (i := 7) (N := some 24) (v := ?_) (a' := ?_) #[true, true, true, true, false, true, true, true, false, false, false, false, false, false, false, false, false, false, false, false, false, false, false, false, false] rfl rfl (any_of HT_.out (by kernel_rfl)) (fun _ _ _ h => h) (Or.inl ⟨by rfl, ?_⟩) ?_ ?_
         rotate_left
         ·intro w'
          go_simp
          with_reducible rfl
         rotate_left
         ·simp only [Act.put, q1_, q2_, q3_, i64_w, i32_w]
          rfl
         refine pure_ (i := 8) (N := some 25) (v := ?_) (a' := ?_) #[true, true, true, true, false, true, true, true, true, false, false, false, false, false, false, false, false, false, false, false, false, false, false, false, false] rfl rfl (any_of HT_.out (by kernel_rfl)) (fun _ _ _ h => h) (Or.inl ⟨by rfl, ?_⟩) ?_ ?_
         rotate_left
         ·intro w'
          go_simp
          with_reducible rfl
         rotate_left
         ·simp only [Act.put, q1_, q2_, q3_, i64_w, i32_w]
          rfl
         refine take_ (i := 4) (N := some 21) (v := ?_) (a' := ?_) #[true, true, true, true, true, true, true, true, true, false, false, false, false, false, false, false, false, false, false, false, false, false, false, false, false] rfl rfl (take_ofW HT_.out HW_.out (by kernel_rfl)) (fun _ _ _ h => h) (Or.inl ⟨by rfl, ?_⟩) hHeld ?_ ?_
         rotate_left
         ·rintro w' ⟨s0, s1, s2, s3, s4, s5, s6, s7, s8, s9, s10, s11, s12, s13, s14, s15⟩
          go_simp
          with_reducible rfl
         rotate_left
         ·simp only [Act.put, q1_, q2_, q3_, i64_w, i32_w]
          rfl
         refine take_ (i := 9) (N := some 26) (v := ?_) (a' := ?_) #[true, true, true, true, true, true, true, true, true, true, false, false, false, false, false, false, false, false, false, false, false, false, false, false, false] rfl rfl (take_ofW HT_.out HW_.out (by kernel_rfl)) (fun _ _ _ h => h) (Or.inl ⟨by rfl, ?_⟩) hHeld ?_ ?_
         rotate_left
         ·rintro w' ⟨s0, s1, s2, s3, s4, s5, s6, s7, s8, s9, s10, s11, s12, s13, s14, s15⟩
          go_simp
          with_reducible rfl
         rotate_left
         ·simp only [Act.put, q1_, q2_, q3_, i64_w, i32_w]
          rfl
         refine pure_ (i := 10) (N := some 27) (v := ?_) (a' := ?_) #[true, true, true, true, true, true, true, true, true, true, true, false, false, false, false, false, false, false, false, false, false, false, false, false, false] rfl rfl (any_of HT_.out (by kernel_rfl)) (fun _ _ _ h => h) (Or.inl ⟨by rfl, ?_⟩) ?_ ?_
         rotate_left
         ·intro w'
          go_simp
          with_reducible rfl
         rotate_left
         ·simp only [Act.put, q1_, q2_, q3_, i64_w, i32_w]
          rfl
         refine pure_ (i := 11) (N := some 28) (v := ?_) (a' := ?_) #[true, true, true, true, true, true, true, true, true, true, true, true, false, false, false, false, false, false, false, false, false, false, false, false, false] rfl rfl (any_of HT_.out (by kernel_rfl)) (fun _ _ _ h => h) (Or.inl ⟨by rfl, ?_⟩) ?_ ?_
         rotate_left
         ·intro w'
          go_simp
          with_reducible rfl
         rotate_left
         ·simp only [Act.put, q1_, q2_, q3_, i64_w, i32_w]
          rfl
         refine pure_ (i := 12) (N := some 29) (v := ?_) (a' := ?_) #[true, true, true, true, true, true, true, true, true, true, true, true, true, false, false, false, false, false, false, false, false, false, false, false, false] rfl rfl (any_of HT_.out (by kernel_rfl)) (fun _ _ _ h => h) (Or.inl ⟨by rfl, ?_⟩) ?_ ?_
         rotate_left
         ·intro w'
          go_simp
          with_reducible rfl
         rotate_left
         ·simp only [Act.put, q1_, q2_, q3_, i64_w, i32_w]
          rfl
         refine pure_ (i := 13) (N := some 30) (v := ?_) (a' := ?_) #[true, true, true, true, true, true, true, true, true, true, true, true, true, true, false, false, false, false, false, false, false, false, false, false, false] rfl rfl (any_of HT_.out (by kernel_rfl)) (fun _ _ _ h => h) (Or.inl ⟨by rfl, ?_⟩) ?_ ?_
         rotate_left
         ·intro w'
          go_simp
          with_reducible rfl
         rotate_left
         ·simp only [Act.put, q1_, q2_, q3_, i64_w, i32_w]
          rfl
         refine pure_ (i := 14) (N := some 31) (v := ?_) (a' := ?_) #[true, true, true, true, true, true, true, true, true, true, true, true, true, true, true, false, false, false, false, false, false, false, false, false, false] rfl rfl (any_of HT_.out (by kernel_rfl)) (fun _ _ _ h => h) (Or.inl ⟨by rfl, ?_⟩) ?_ ?_
         rotate_left
         ·intro w'
          go_simp
          with_reducible rfl
         rotate_left
         ·simp only [Act.put, q1_, q2_, q3_, i64_w, i32_w]
          rfl
         refine pure_ (i := 15) (N := some 32) (v := ?_) (a' := ?_) #[true, true, true, true, true, true, true, true, true, true, true, true, true, true, true, true, false, false, false, false, false, false, false, false, false] rfl rfl (any_of HT_.out (by kernel_rfl)) (fun _ _ _ h => h) (Or.inl ⟨by rfl, ?_⟩) ?_ ?_
         rotate_left
         ·intro w'
          go_simp
          with_reducible rfl
         rotate_left
         ·simp only [Act.put, q1_, q2_, q3_, i64_w, i32_w]
          rfl
         refine pure_ (i := 17) (N := some 34) (v := ?_) (a' := ?_) #[true, true, true, true, true, true, true, true, true, true, true, true, true, true, true, true, false, true, false, false, false, false, false, false, false] rfl rfl (any_of HT_.out (by kernel_rfl)) (fun _ _ _ h => h) (Or.inl ⟨by rfl, ?_⟩) ?_ ?_
         rotate_left
         ·intro w'
          go_simp
          with_reducible rfl
         rotate_left
         ·simp only [Act.put, q1_, q2_, q3_, i64_w, i32_w]
          rfl
         refine pure_ (i := 18) (N := some 35) (v := ?_) (a' := ?_) #[true, true, true, true, true, true, true, true, true, true, true, true, true, true, true, true, false, true, true, false, false, false, false, false, false] rfl rfl (any_of HT_.out (by kernel_rfl)) (fun _ _ _ h => h) (Or.inl ⟨by rfl, ?_⟩) ?_ ?_
         rotate_left
         ·intro w'
          go_simp
          with_reducible rfl
         rotate_left
         ·simp only [Act.put, q1_, q2_, q3_, i64_w, i32_w]
          rfl
         refine pure_ (i := 19) (N := some 36) (v := ?_) (a' := ?_) #[true, true, true, true, true, true, true, true, true, true, true, true, true, true, true, true, false, true, true, true, false, false, false, false, false] rfl rfl (any_of HT_.out (by kernel_rfl)) (fun _ _ _ h => h) (Or.inl ⟨by rfl, ?_⟩) ?_ ?_
         rotate_left
         ·intro w'
          go_simp
          with_reducible rfl
         rotate_left
         ·simp only [Act.put, q1_, q2_, q3_, i64_w, i32_w]
          rfl
         refine pure_ (i := 20) (N := some 37) (v := ?_) (a' := ?_) #[true, true, true, true, true, true, true, true, true, true, true, true, true, true, true, true, false, true, true, true, true, false, false, false, false] rfl rfl (any_of HT_.out (by kernel_rfl)) (fun _ _ _ h => h) (Or.inl ⟨by rfl, ?_⟩) ?_ ?_
         rotate_left
         ·intro w'
          go_simp
          with_reducible rfl
         rotate_left
         ·simp only [Act.put, q1_, q2_, q3_, i64_w, i32_w]
          rfl
         refine take_ (i := 16) (N := some 33) (v := ?_) (a' := ?_) #[true, true, true, true, true, true, true, true, true, true, true, true, true, true, true, true, true, true, true, true, true, false, false, false, false] rfl rfl (take_ofW HT_.out HW_.out (by kernel_rfl)) (fun _ _ _ h => h) (Or.inl ⟨by rfl, ?_⟩) hHeld ?_ ?_
         rotate_left
         ·rintro w' ⟨s0, s1, s2, s3, s4, s5, s6, s7, s8, s9, s10, s11, s12, s13, s14, s15⟩
          go_simp
          with_reducible rfl
         rotate_left
         ·simp only [Act.put, q1_, q2_, q3_, i64_w, i32_w]
          rfl
         refine take_ (i := 21) (N := some 38) (v := ?_) (a' := ?_) #[true, true, true, true, true, true, true, true, true, true, true, true, true, true, true, true, true, true, true, true, true, true, false, false, false] rfl rfl (take_ofW HT_.out HW_.out (by kernel_rfl)) (fun _ _ _ h => h) (Or.inl ⟨by rfl, ?_⟩) hHeld ?_ ?_
         rotate_left
         ·rintro w' ⟨s0, s1, s2, s3, s4, s5, s6, s7, s8, s9, s10, s11, s12, s13, s14, s15⟩
          go_simp
          with_reducible rfl
         rotate_left
         ·simp only [Act.put, q1_, q2_, q3_, i64_w, i32_w]
          rfl
         refine one_ (i := 22) (N := some 39) #[true, true, true, true, true, true, true, true, true, true, true, true, true, true, true, true, true, true, true, true, true, true, true, false, false] rfl rfl (one_of HT_.out (by kernel_rfl)) (by decide) (fun K hK => ?_)
         refine goes_ Try.func15 (by kernel_rfl) rfl #[.agg #[.int .i64 ((rd_T40 l0 x5_1).f0.f0), .slice A177_1 ((rd_T40 l0 x5_1).f0.f1).length c177_1, .slice A177_2 ((rd_T40 l0 x5_1).f0.f2).length c177_2], .agg #[.int .i64 ((rd_T40 l1 x5_1).f0.f0), .slice A178_1 ((rd_T40 l1 x5_1).f0.f1).length c178_1, .slice A178_2 ((rd_T40 l1 x5_1).f0.f2).length c178_2]] (by rfl) rfl rfl (by (try simp only [List.map_toArray, List.map_cons, List.map_nil]); first | done | rfl | (simp only [List.length_drop, List.length_take]; rfl)) ?_
         with_reducible refine (gristmillref04_Compare.calls k1 ((rd_T40 l0 x5_1).f0.f0) _ _ ((rd_T40 l0 x5_1).f0.f1) _ _ ((rd_T40 l0 x5_1).f0.f2) ((rd_T40 l1 x5_1).f0.f0) _ _ ((rd_T40 l1 x5_1).f0.f1) _ _ ((rd_T40 l1 x5_1).f0.f2) t181 _ ?side1 ?side2 ?side3 ?side4 ?side5 ?side6 ?side7 ?side8 A8.out).mono ?_
         (case side1 => repeat (first | exact (Kd.C_below HR179_1.out HB.out) | (with_reducible refine Kd.C_alloc ?_ _) | (with_reducible refine Kd.C_drewN ?_ _) | (with_reducible refine Kd.C_drew ?_)))
         (case side2 => exact HC179_1.out)
         (case side3 => repeat (first | exact (Kd.C_below HR179_2.out HB.out) | (with_reducible refine Kd.C_alloc ?_ _) | (with_reducible refine Kd.C_drewN ?_ _) | (with_reducible refine Kd.C_drew ?_)))
         (case side4 => exact HC179_2.out)
         (case side5 => repeat (first | exact (Kd.C_below HR180_1.out HB.out) | (with_reducible refine Kd.C_alloc ?_ _) | (with_reducible refine Kd.C_drewN ?_ _) | (with_reducible refine Kd.C_drew ?_)))
         (case side6 => exact HC180_1.out)
         (case side7 => repeat (first | exact (Kd.C_below HR180_2.out HB.out) | (with_reducible refine Kd.C_alloc ?_ _) | (with_reducible refine Kd.C_drewN ?_ _) | (with_reducible refine Kd.C_drew ?_)))
         (case side8 => exact HC180_2.out)
         rintro e w11 ⟨rfl, hb⟩
         refine ⟨_, rfl, ?_⟩
         have n0_ := Aside0.mk (below_step (bw_ HB.out) hb)
         clear HB
         have HB := n0_
         clear n0_
         (try clear hb)
         (try clear hb2)
         (try clear hk)
         (try clear hi)
         refine hK.out _ _ ⟨(pw_cell_below HB.out hw177_0), (pw_cell_below HB.out hw177_1), (pw_cell_below HB.out hw177_2), (pw_cell_below HB.out hw177_3), (pw_cell_below HB.out hw178_0), (pw_cell_below HB.out hw178_1), (pw_cell_below HB.out hw178_2), (pw_cell_below HB.out hw178_3), (pw_cell_below HB.out hw179_0), (pw_cell_below HB.out hw179_1), (pw_cell_below HB.out hw179_2), (pw_cell_below HB.out hw179_3), (pw_cell_below HB.out hw180_0), (pw_cell_below HB.out hw180_1), (pw_cell_below HB.out hw180_2), (pw_cell_below HB.out hw180_3)⟩ (fun hHeld => ?_)
         clear hK K
         refine norm_ (a' := ?_) ?_ ?_
         rotate_left
         ·show Act.put _ (some 39) _ = _
          simp only [Act.put, q1_, q2_, q3_, i64_w, i32_w]
          rfl
         refine pure_ (i := 23) (N := some 40) (v := ?_) (a' := ?_) #[true, true, true, true, true, true, true, true, true, true, true, true, true, true, true, true, true, true, true, true, true, true, true, true, false] rfl rfl (any_of HT_.out (by kernel_rfl)) (fun _ _ _ h => h) (Or.inl ⟨by rfl, ?_⟩) ?_ ?_
         rotate_left
         ·intro w'
          go_simp
          with_reducible rfl
         rotate_left
         ·simp only [Act.put, q1_, q2_, q3_, i64_w, i32_w]
          rfl
         refine pure_ (i := 24) (N := some 41) (v := ?_) (a' := ?_) #[true, true, true, true, true, true, true, true, true, true, true, true, true, true, true, true, true, true, true, true, true, true, true, true, true] rfl rfl (any_of HT_.out (by kernel_rfl)) (fun _ _ _ h => h) (Or.inl ⟨by rfl, ?_⟩) ?_ ?_
         rotate_left
         ·intro w'
          go_simp
          with_reducible rfl
         rotate_left
         ·simp only [Act.put, q1_, q2_, q3_, i64_w, i32_w]
          rfl
         refine done_ (done_of HT_.out (by kernel_rfl)) ?_
         try go_wp2
         go_roundg k1
         case measure => have := HK1.out; omega
         case rel => exact ⟨(wrap64 (x5_1 + 1)), (by first | rfl | (simp; done) | (simp [*]; done)), H', ⟨by have := HK1.out; omega⟩, ⟨by repeat (first | (with_reducible first | exact HB.out | apply below_alloc | apply pw_below_drewN | apply below_drew1) | exact HB.out)⟩⟩
        ·rw [if_neg c9] at H
         have c9b0 : (t181 == 0) = false := beq_eq_false_iff_ne.mpr c9
         have c9b1 : (t181 != 0) = true := bne_iff_ne.mpr c9
         obtain rfl := Option.some.inj H
         try go_wp2
         have n0_ := Aside0.mk (below_drew1 HB.out)
         clear HB
         have HB := n0_
         clear n0_
         have p177 : 0 ≤ (x5_1 : Int) := of_decide_eq_true (by assumption)
         have q177 : x5_1 < (l0.length : Int) := of_decide_eq_true (by assumption)
         obtain ⟨ad177, A177_1, c177_1, A177_2, c177_2, e177, hx177_0, hx177_1, hx177_2, hx177_3, hl177_1, hi177_1, hl177_2, hi177_2⟩ := at_T40 HR0.out x5_1 p177 q177
         have hw177_3 := hx177_3
         have hw177_2 := hx177_2
         have hw177_1 := hx177_1
         have hw177_0 := hx177_0
         cases e177
         replace hx177_0 := pw_cell_below HB.out hx177_0
         replace hx177_1 := pw_cell_below HB.out hx177_1
         replace hx177_2 := pw_cell_below HB.out hx177_2
         replace hx177_3 := pw_cell_below HB.out hx177_3
         have HR177_1 := Aside0.mk hi177_1
         have HC177_1 := Aside0.mk hl177_1
         clear hi177_1 hl177_1
         have HR177_2 := Aside0.mk hi177_2
         have HC177_2 := Aside0.mk hl177_2
         clear hi177_2 hl177_2
         replace p177 := eq_true p177
         replace q177 := eq_true q177
         have p178 : 0 ≤ (x5_1 : Int) := of_decide_eq_true (by assumption)
         have q178 : x5_1 < (l1.length : Int) := of_decide_eq_true (by assumption)
         obtain ⟨ad178, A178_1, c178_1, A178_2, c178_2, e178, hx178_0, hx178_1, hx178_2, hx178_3, hl178_1, hi178_1, hl178_2, hi178_2⟩ := at_T40 HR1.out x5_1 p178 q178
         have hw178_3 := hx178_3
         have hw178_2 := hx178_2
         have hw178_1 := hx178_1
         have hw178_0 := hx178_0
         cases e178
         replace hx178_0 := pw_cell_below HB.out hx178_0
         replace hx178_1 := pw_cell_below HB.out hx178_1
         replace hx178_2 := pw_cell_below HB.out hx178_2
         replace hx178_3 := pw_cell_below HB.out hx178_3
         have HR178_1 := Aside0.mk hi178_1
         have HC178_1 := Aside0.mk hl178_1
         clear hi178_1 hl178_1
         have HR178_2 := Aside0.mk hi178_2
         have HC178_2 := Aside0.mk hl178_2
         clear hi178_2 hl178_2
         replace p178 := eq_true p178
         replace q178 := eq_true q178
         have p179 : 0 ≤ (x5_1 : Int) := of_decide_eq_true (by assumption)
         have q179 : x5_1 < (l0.length : Int) := of_decide_eq_true (by assumption)
         obtain ⟨ad179, A179_1, c179_1, A179_2, c179_2, e179, hx179_0, hx179_1, hx179_2, hx179_3, hl179_1, hi179_1, hl179_2, hi179_2⟩ := at_T40 HR0.out x5_1 p179 q179
         have hw179_3 := hx179_3
         have hw179_2 := hx179_2
         have hw179_1 := hx179_1
         have hw179_0 := hx179_0
         obtain rfl : ad177 = ad179 := (by injection e179)
         replace hx179_0 := pw_cell_below HB.out hx179_0
         replace hx179_1 := pw_cell_below HB.out hx179_1
         replace hx179_2 := pw_cell_below HB.out hx179_2
         replace hx179_3 := pw_cell_below HB.out hx179_3
         have HR179_1 := Aside0.mk hi179_1
         have HC179_1 := Aside0.mk hl179_1
         clear hi179_1 hl179_1
         have HR179_2 := Aside0.mk hi179_2
         have HC179_2 := Aside0.mk hl179_2
         clear hi179_2 hl179_2
         replace p179 := eq_true p179
         replace q179 := eq_true q179
         have ea_ := Option.some.inj (hx177_1.symm.trans hx179_1)
         injection ea_ with ea_ en_ ec_
         subst ea_
         subst ec_
         clear en_
         have ea_ := Option.some.inj (hx177_2.symm.trans hx179_2)
         injection ea_ with ea_ en_ ec_
         subst ea_
         subst ec_
         clear en_
         have p180 : 0 ≤ (x5_1 : Int) := of_decide_eq_true (by assumption)
         have q180 : x5_1 < (l1.length : Int) := of_decide_eq_true (by assumption)
         obtain ⟨ad180, A180_1, c180_1, A180_2, c180_2, e180, hx180_0, hx180_1, hx180_2, hx180_3, hl180_1, hi180_1, hl180_2, hi180_2⟩ := at_T40 HR1.out x5_1 p180 q180
         have hw180_3 := hx180_3
         have hw180_2 := hx180_2
         have hw180_1 := hx180_1
         have hw180_0 := hx180_0
         obtain rfl : ad178 = ad180 := (by injection e180)
         replace hx180_0 := pw_cell_below HB.out hx180_0
         replace hx180_1 := pw_cell_below HB.out hx180_1
         replace hx180_2 := pw_cell_below HB.out hx180_2
         replace hx180_3 := pw_cell_below HB.out hx180_3
         have HR180_1 := Aside0.mk hi180_1
         have HC180_1 := Aside0.mk hl180_1
         clear hi180_1 hl180_1
         have HR180_2 := Aside0.mk hi180_2
         have HC180_2 := Aside0.mk hl180_2
         clear hi180_2 hl180_2
         replace p180 := eq_true p180
         replace q180 := eq_true q180
         have ea_ := Option.some.inj (hx178_1.symm.trans hx180_1)
         injection ea_ with ea_ en_ ec_
         subst ea_
         subst ec_
         clear en_
         have ea_ := Option.some.inj (hx178_2.symm.trans hx180_2)
         injection ea_ with ea_ en_ ec_
         subst ea_
         subst ec_
         clear en_
         refine start_ (n := 25) (S := fun w' => w'.cell? (ad177.add ((x5_1).toNat * 4)) = some (.int .i64 ((rd_T40 l0 x5_1).f0.f0)) ∧ w'.cell? ⟨(ad177.add ((x5_1).toNat * 4)).block, (ad177.add ((x5_1).toNat * 4)).off + 1, none⟩ = some (.slice A177_1 ((rd_T40 l0 x5_1).f0.f1).length c177_1) ∧ w'.cell? ⟨(ad177.add ((x5_1).toNat * 4)).block, (ad177.add ((x5_1).toNat * 4)).off + 2, none⟩ = some (.slice A177_2 ((rd_T40 l0 x5_1).f0.f2).length c177_2) ∧ w'.cell? ⟨(ad177.add ((x5_1).toNat * 4)).block, (ad177.add ((x5_1).toNat * 4)).off + 3, none⟩ = some (.int .u64 ((rd_T40 l0 x5_1).f1)) ∧ w'.cell? (ad178.add ((x5_1).toNat * 4)) = some (.int .i64 ((rd_T40 l1 x5_1).f0.f0)) ∧ w'.cell? ⟨(ad178.add ((x5_1).toNat * 4)).block, (ad178.add ((x5_1).toNat * 4)).off + 1, none⟩ = some (.slice A178_1 ((rd_T40 l1 x5_1).f0.f1).length c178_1) ∧ w'.cell? ⟨(ad178.add ((x5_1).toNat * 4)).block, (ad178.add ((x5_1).toNat * 4)).off + 2, none⟩ = some (.slice A178_2 ((rd_T40 l1 x5_1).f0.f2).length c178_2) ∧ w'.cell? ⟨(ad178.add ((x5_1).toNat * 4)).block, (ad178.add ((x5_1).toNat * 4)).off + 3, none⟩ = some (.int .u64 ((rd_T40 l1 x5_1).f1)) ∧ w'.cell? (ad177.add ((x5_1).toNat * 4)) = some (.int .i64 ((rd_T40 l0 x5_1).f0.f0)) ∧ w'.cell? ⟨(ad177.add ((x5_1).toNat * 4)).block, (ad177.add ((x5_1).toNat * 4)).off + 1, none⟩ = some (.slice A177_1 ((rd_T40 l0 x5_1).f0.f1).length c177_1) ∧ w'.cell? ⟨(ad177.add ((x5_1).toNat * 4)).block, (ad177.add ((x5_1).toNat * 4)).off + 2, none⟩ = some (.slice A177_2 ((rd_T40 l0 x5_1).f0.f2).length c177_2) ∧ w'.cell? ⟨(ad177.add ((x5_1).toNat * 4)).block, (ad177.add ((x5_1).toNat * 4)).off + 3, none⟩ = some (.int .u64 ((rd_T40 l0 x5_1).f1)) ∧ w'.cell? (ad178.add ((x5_1).toNat * 4)) = some (.int .i64 ((rd_T40 l1 x5_1).f0.f0)) ∧ w'.cell? ⟨(ad178.add ((x5_1).toNat * 4)).block, (ad178.add ((x5_1).toNat * 4)).off + 1, none⟩ = some (.slice A178_1 ((rd_T40 l1 x5_1).f0.f1).length c178_1) ∧ w'.cell? ⟨(ad178.add ((x5_1).toNat * 4)).block, (ad178.add ((x5_1).toNat * 4)).off + 2, none⟩ = some (.slice A178_2 ((rd_T40 l1 x5_1).f0.f2).length c178_2) ∧ w'.cell? ⟨(ad178.add ((x5_1).toNat * 4)).block, (ad178.add ((x5_1).toNat * 4)).off + 3, none⟩ = some (.int .u64 ((rd_T40 l1 x5_1).f1))) (ds := []) #[false, false, false, false, false, false, false, false, false, false, false, false, false, false, false, false, false, false, false, false, false, false, false, false, false] (by kernel_rfl) rfl rfl ⟨(pw_cell_below HB.out hw177_0), (pw_cell_below HB.out hw177_1), (pw_cell_below HB.out hw177_2), (pw_cell_below HB.out hw177_3), (pw_cell_below HB.out hw178_0), (pw_cell_below HB.out hw178_1), (pw_cell_below HB.out hw178_2), (pw_cell_below HB.out hw178_3), (pw_cell_below HB.out hw179_0), (pw_cell_below HB.out hw179_1), (pw_cell_below HB.out hw179_2), (pw_cell_below HB.out hw179_3), (pw_cell_below HB.out hw180_0), (pw_cell_below HB.out hw180_1), (pw_cell_below HB.out hw180_2), (pw_cell_below HB.out hw180_3)⟩ (fun hHeld => ?_); refine with_tabW gristmillref04_Is.tab6 gristmillref04_Is.bits6 (fun HT_ HW_ => ?_)
         generalize wr.drew = w12 at HB HR177_1 HR177_2 HR178_1 HR178_2 HR179_1 HR179_2 HR180_1 HR180_2 hx177_0 hx177_1 hx177_2 hx177_3 hx178_0 hx178_1 hx178_2 hx178_3 hx179_0 hx179_1 hx179_2 hx179_3 hx180_0 hx180_1 hx180_2 hx180_3 hHeld ⊢
         refine pure_ (i := 0) (N := some 17) (v := ?_) (a' := ?_) #[true, false, false, false, false, false, false, false, false, false, false, false, false, false, false, false, false, false, false, false, false, false, false, false, false] rfl rfl (any_of HT_.out (by kernel_rfl)) (fun _ _ _ h => h) (Or.inl ⟨by rfl, ?_⟩) ?_ ?_
         rotate_left
         ·intro w'
          go_simp
          with_reducible rfl
         rotate_left
         ·simp only [Act.put, q1_, q2_, q3_, i64_w, i32_w]
          rfl
         refine pure_ (i := 1) (N := some 18) (v := ?_) (a' := ?_) #[true, true, false, false, false, false, false, false, false, false, false, false, false, false, false, false, false, false, false, false, false, false, false, false, false] rfl rfl (any_of HT_.out (by kernel_rfl)) (fun _ _ _ h => h) (Or.inl ⟨by rfl, ?_⟩) ?_ ?_
         rotate_left
         ·intro w'
          go_simp
          with_reducible rfl
         rotate_left
         ·simp only [Act.put, q1_, q2_, q3_, i64_w, i32_w]
          rfl
         refine pure_ (i := 2) (N := some 19) (v := ?_) (a' := ?_) #[true, true, true, false, false, false, false, false, false, false, false, false, false, false, false, false, false, false, false, false, false, false, false, false, false] rfl rfl (any_of HT_.out (by kernel_rfl)) (fun _ _ _ h => h) (Or.inl ⟨by rfl, ?_⟩) ?_ ?_
         rotate_left
         ·intro w'
          go_simp
          with_reducible rfl
         rotate_left
         ·simp only [Act.put, q1_, q2_, q3_, i64_w, i32_w]
          rfl
         refine pure_ (i := 3) (N := some 20) (v := ?_) (a' := ?_) #[true, true, true, true, false, false, false, false, false, false, false, false, false, false, false, false, false, false, false, false, false, false, false, false, false] rfl rfl (any_of HT_.out (by kernel_rfl)) (fun _ _ _ h => h) (Or.inl ⟨by rfl, ?_⟩) ?_ ?_
         rotate_left
         ·intro w'
          go_simp
          with_reducible rfl
         rotate_left
         ·simp only [Act.put, q1_, q2_, q3_, i64_w, i32_w]
          rfl
         refine pure_ (i := 5) (N := some 22) (v := ?_) (a' := ?_) #[true, true, true, true, false, true, false, false, false, false, false, false, false, false, false, false, false, false, false, false, false, false, false, false, false] rfl rfl (any_of HT_.out (by kernel_rfl)) (fun _ _ _ h => h) (Or.inl ⟨by rfl, ?_⟩) ?_ ?_
         rotate_left
         ·intro w'
          go_simp
          with_reducible rfl
         rotate_left
         ·simp only [Act.put, q1_, q2_, q3_, i64_w, i32_w]
          rfl
         refine pure_ (i := 6) (N := some 23) (v := ?_) (a' := ?_) #[true, true, true, true, false, true, true, false, false, false, false, false, false, false, false, false, false, false, false, false, false, false, false, false, false] rfl rfl (any_of HT_.out (by kernel_rfl)) (fun _ _ _ h => h) (Or.inl ⟨by rfl, ?_⟩) ?_ ?_
         rotate_left
         ·intro w'
          go_simp
          with_reducible rfl
         rotate_left
         ·simp only [Act.put, q1_, q2_, q3_, i64_w, i32_w]
          rfl
         refine pure_ (i := 7) (N := some 24) (v := ?_) (a' := ?_) #[true, true, true, true, false, true, true, true, false, false, false, false, false, false, false, false, false, false, false, false, false, false, false, false, false] rfl rfl (any_of HT_.out (by kernel_rfl)) (fun _ _ _ h => h) (Or.inl ⟨by rfl, ?_⟩) ?_ ?_
         rotate_left
         ·intro w'
          go_simp
          with_reducible rfl
         rotate_left
         ·simp only [Act.put, q1_, q2_, q3_, i64_w, i32_w]
          rfl
         refine pure_ (i := 8) (N := some 25) (v := ?_) (a' := ?_) #[true, true, true, true, false, true, true, true, true, false, false, false, false, false, false, false, false, false, false, false, false, false, false, false, false] rfl rfl (any_of HT_.out (by kernel_rfl)) (fun _ _ _ h => h) (Or.inl ⟨by rfl, ?_⟩) ?_ ?_
         rotate_left
         ·intro w'
          go_simp
          with_reducible rfl
         rotate_left
         ·simp only [Act.put, q1_, q2_, q3_, i64_w, i32_w]
          rfl
         refine take_ (i := 4) (N := some 21) (v := ?_) (a' := ?_) #[true, true, true, true, true, true, true, true, true, false, false, false, false, false, false, false, false, false, false, false, false, false, false, false, false] rfl rfl (take_ofW HT_.out HW_.out (by kernel_rfl)) (fun _ _ _ h => h) (Or.inl ⟨by rfl, ?_⟩) hHeld ?_ ?_
         rotate_left
         ·rintro w' ⟨s0, s1, s2, s3, s4, s5, s6, s7, s8, s9, s10, s11, s12, s13, s14, s15⟩
          go_simp
          with_reducible rfl
         rotate_left
         ·simp only [Act.put, q1_, q2_, q3_, i64_w, i32_w]
          rfl
         refine take_ (i := 9) (N := some 26) (v := ?_) (a' := ?_) #[true, true, true, true, true, true, true, true, true, true, false, false, false, false, false, false, false, false, false, false, false, false, false, false, false] rfl rfl (take_ofW HT_.out HW_.out (by kernel_rfl)) (fun _ _ _ h => h) (Or.inl ⟨by rfl, ?_⟩) hHeld ?_ ?_
         rotate_left
         ·rintro w' ⟨s0, s1, s2, s3, s4, s5, s6, s7, s8, s9, s10, s11, s12, s13, s14, s15⟩
          go_simp
          with_reducible rfl
         rotate_left
         ·simp only [Act.put, q1_, q2_, q3_, i64_w, i32_w]
          rfl
         refine pure_ (i := 10) (N := some 27) (v := ?_) (a' := ?_) #[true, true, true, true, true, true, true, true, true, true, true, false, false, false, false, false, false, false, false, false, false, false, false, false, false] rfl rfl (any_of HT_.out (by kernel_rfl)) (fun _ _ _ h => h) (Or.inl ⟨by rfl, ?_⟩) ?_ ?_
         rotate_left
         ·intro w'
          go_simp
          with_reducible rfl
         rotate_left
         ·simp only [Act.put, q1_, q2_, q3_, i64_w, i32_w]
          rfl
         refine pure_ (i := 11) (N := some 28) (v := ?_) (a' := ?_) #[true, true, true, true, true, true, true, true, true, true, true, true, false, false, false, false, false, false, false, false, false, false, false, false, false] rfl rfl (any_of HT_.out (by kernel_rfl)) (fun _ _ _ h => h) (Or.inl ⟨by rfl, ?_⟩) ?_ ?_
         rotate_left
         ·intro w'
          go_simp
          with_reducible rfl
         rotate_left
         ·simp only [Act.put, q1_, q2_, q3_, i64_w, i32_w]
          rfl
         refine pure_ (i := 12) (N := some 29) (v := ?_) (a' := ?_) #[true, true, true, true, true, true, true, true, true, true, true, true, true, false, false, false, false, false, false, false, false, false, false, false, false] rfl rfl (any_of HT_.out (by kernel_rfl)) (fun _ _ _ h => h) (Or.inl ⟨by rfl, ?_⟩) ?_ ?_
         rotate_left
         ·intro w'
          go_simp
          with_reducible rfl
         rotate_left
         ·simp only [Act.put, q1_, q2_, q3_, i64_w, i32_w]
          rfl
         refine pure_ (i := 13) (N := some 30) (v := ?_) (a' := ?_) #[true, true, true, true, true, true, true, true, true, true, true, true, true, true, false, false, false, false, false, false, false, false, false, false, false] rfl rfl (any_of HT_.out (by kernel_rfl)) (fun _ _ _ h => h) (Or.inl ⟨by rfl, ?_⟩) ?_ ?_
         rotate_left
         ·intro w'
          go_simp
          with_reducible rfl
         rotate_left
         ·simp only [Act.put, q1_, q2_, q3_, i64_w, i32_w]
          rfl
         refine pure_ (i := 14) (N := some 31) (v := ?_) (a' := ?_) #[true, true, true, true, true, true, true, true, true, true, true, true, true, true, true, false, false, false, false, false, false, false, false, false, false] rfl rfl (any_of HT_.out (by kernel_rfl)) (fun _ _ _ h => h) (Or.inl ⟨by rfl, ?_⟩) ?_ ?_
         rotate_left
         ·intro w'
          go_simp
          with_reducible rfl
         rotate_left
         ·simp only [Act.put, q1_, q2_, q3_, i64_w, i32_w]
          rfl
         refine pure_ (i := 15) (N := some 32) (v := ?_) (a' := ?_) #[true, true, true, true, true, true, true, true, true, true, true, true, true, true, true, true, false, false, false, false, false, false, false, false, false] rfl rfl (any_of HT_.out (by kernel_rfl)) (fun _ _ _ h => h) (Or.inl ⟨by rfl, ?_⟩) ?_ ?_
         rotate_left
         ·intro w'
          go_simp
          with_reducible rfl
         rotate_left
         ·simp only [Act.put, q1_, q2_, q3_, i64_w, i32_w]
          rfl
         refine pure_ (i := 17) (N := some 34) (v := ?_) (a' := ?_) #[true, true, true, true, true, true, true, true, true, true, true, true, true, true, true, true, false, true, false, false, false, false, false, false, false] rfl rfl (any_of HT_.out (by kernel_rfl)) (fun _ _ _ h => h) (Or.inl ⟨by rfl, ?_⟩) ?_ ?_
         rotate_left
         ·intro w'
          go_simp
          with_reducible rfl
         rotate_left
         ·simp only [Act.put, q1_, q2_, q3_, i64_w, i32_w]
          rfl
         refine pure_ (i := 18) (N := some 35) (v := ?_) (a' := ?_) #[true, true, true, true, true, true, true, true, true, true, true, true, true, true, true, true, false, true, true, false, false, false, false, false, false] rfl rfl (any_of HT_.out (by kernel_rfl)) (fun _ _ _ h => h) (Or.inl ⟨by rfl, ?_⟩) ?_ ?_
         rotate_left
         ·intro w'
          go_simp
          with_reducible rfl
         rotate_left
         ·simp only [Act.put, q1_, q2_, q3_, i64_w, i32_w]
          rfl
         refine pure_ (i := 19) (N := some 36) (v := ?_) (a' := ?_) #[true, true, true, true, true, true, true, true, true, true, true, true, true, true, true, true, false, true, true, true, false, false, false, false, false] rfl rfl (any_of HT_.out (by kernel_rfl)) (fun _ _ _ h => h) (Or.inl ⟨by rfl, ?_⟩) ?_ ?_
         rotate_left
         ·intro w'
          go_simp
          with_reducible rfl
         rotate_left
         ·simp only [Act.put, q1_, q2_, q3_, i64_w, i32_w]
          rfl
         refine pure_ (i := 20) (N := some 37) (v := ?_) (a' := ?_) #[true, true, true, true, true, true, true, true, true, true, true, true, true, true, true, true, false, true, true, true, true, false, false, false, false] rfl rfl (any_of HT_.out (by kernel_rfl)) (fun _ _ _ h => h) (Or.inl ⟨by rfl, ?_⟩) ?_ ?_
         rotate_left
         ·intro w'
          go_simp
          with_reducible rfl
         rotate_left
         ·simp only [Act.put, q1_, q2_, q3_, i64_w, i32_w]
          rfl
         refine take_ (i := 16) (N := some 33) (v := ?_) (a' := ?_) #[true, true, true, true, true, true, true, true, true, true, true, true, true, true, true, true, true, true, true, true, true, false, false, false, false] rfl rfl (take_ofW HT_.out HW_.out (by kernel_rfl)) (fun _ _ _ h => h) (Or.inl ⟨by rfl, ?_⟩) hHeld ?_ ?_
         rotate_left
         ·rintro w' ⟨s0, s1, s2, s3, s4, s5, s6, s7, s8, s9, s10, s11, s12, s13, s14, s15⟩
          go_simp
          with_reducible rfl
         rotate_left
         ·simp only [Act.put, q1_, q2_, q3_, i64_w, i32_w]
          rfl
         refine take_ (i := 21) (N := some 38) (v := ?_) (a' := ?_) #[true, true, true, true, true, true, true, true, true, true, true, true, true, true, true, true, true, true, true, true, true, true, false, false, false] rfl rfl (take_ofW HT_.out HW_.out (by kernel_rfl)) (fun _ _ _ h => h) (Or.inl ⟨by rfl, ?_⟩) hHeld ?_ ?_
         rotate_left
         ·rintro w' ⟨s0, s1, s2, s3, s4, s5, s6, s7, s8, s9, s10, s11, s12, s13, s14, s15⟩
          go_simp
          with_reducible rfl
         rotate_left
         ·simp only [Act.put, q1_, q2_, q3_, i64_w, i32_w]
          rfl
         refine one_ (i := 22) (N := some 39) #[true, true, true, true, true, true, true, true, true, true, true, true, true, true, true, true, true, true, true, true, true, true, true, false, false] rfl rfl (one_of HT_.out (by kernel_rfl)) (by decide) (fun K hK => ?_)
         refine goes_ Try.func15 (by kernel_rfl) rfl #[.agg #[.int .i64 ((rd_T40 l0 x5_1).f0.f0), .slice A177_1 ((rd_T40 l0 x5_1).f0.f1).length c177_1, .slice A177_2 ((rd_T40 l0 x5_1).f0.f2).length c177_2], .agg #[.int .i64 ((rd_T40 l1 x5_1).f0.f0), .slice A178_1 ((rd_T40 l1 x5_1).f0.f1).length c178_1, .slice A178_2 ((rd_T40 l1 x5_1).f0.f2).length c178_2]] (by rfl) rfl rfl (by (try simp only [List.map_toArray, List.map_cons, List.map_nil]); first | done | rfl | (simp only [List.length_drop, List.length_take]; rfl)) ?_
         with_reducible refine (gristmillref04_Compare.calls k1 ((rd_T40 l0 x5_1).f0.f0) _ _ ((rd_T40 l0 x5_1).f0.f1) _ _ ((rd_T40 l0 x5_1).f0.f2) ((rd_T40 l1 x5_1).f0.f0) _ _ ((rd_T40 l1 x5_1).f0.f1) _ _ ((rd_T40 l1 x5_1).f0.f2) t181 _ ?side1 ?side2 ?side3 ?side4 ?side5 ?side6 ?side7 ?side8 A8.out).mono ?_
         (case side1 => repeat (first | exact (Kd.C_below HR179_1.out HB.out) | (with_reducible refine Kd.C_alloc ?_ _) | (with_reducible refine Kd.C_drewN ?_ _) | (with_reducible refine Kd.C_drew ?_)))
         (case side2 => exact HC179_1.out)
         (case side3 => repeat (first | exact (Kd.C_below HR179_2.out HB.out) | (with_reducible refine Kd.C_alloc ?_ _) | (with_reducible refine Kd.C_drewN ?_ _) | (with_reducible refine Kd.C_drew ?_)))
         (case side4 => exact HC179_2.out)
         (case side5 => repeat (first | exact (Kd.C_below HR180_1.out HB.out) | (with_reducible refine Kd.C_alloc ?_ _) | (with_reducible refine Kd.C_drewN ?_ _) | (with_reducible refine Kd.C_drew ?_)))
         (case side6 => exact HC180_1.out)
         (case side7 => repeat (first | exact (Kd.C_below HR180_2.out HB.out) | (with_reducible refine Kd.C_alloc ?_ _) | (with_reducible refine Kd.C_drewN ?_ _) | (with_reducible refine Kd.C_drew ?_)))
         (case side8 => exact HC180_2.out)
         rintro e w13 ⟨rfl, hb⟩
         refine ⟨_, rfl, ?_⟩
         have n0_ := Aside0.mk (below_step (bw_ HB.out) hb)
         clear HB
         have HB := n0_
         clear n0_
         (try clear hb)
         (try clear hb2)
         (try clear hk)
         (try clear hi)
         refine hK.out _ _ ⟨(pw_cell_below HB.out hw177_0), (pw_cell_below HB.out hw177_1), (pw_cell_below HB.out hw177_2), (pw_cell_below HB.out hw177_3), (pw_cell_below HB.out hw178_0), (pw_cell_below HB.out hw178_1), (pw_cell_below HB.out hw178_2), (pw_cell_below HB.out hw178_3), (pw_cell_below HB.out hw179_0), (pw_cell_below HB.out hw179_1), (pw_cell_below HB.out hw179_2), (pw_cell_below HB.out hw179_3), (pw_cell_below HB.out hw180_0), (pw_cell_below HB.out hw180_1), (pw_cell_below HB.out hw180_2), (pw_cell_below HB.out hw180_3)⟩ (fun hHeld => ?_)
         clear hK K
         refine norm_ (a' := ?_) ?_ ?_
         rotate_left
         ·show Act.put _ (some 39) _ = _
          simp only [Act.put, q1_, q2_, q3_, i64_w, i32_w]
          rfl
         refine pure_ (i := 23) (N := some 40) (v := ?_) (a' := ?_) #[true, true, true, true, true, true, true, true, true, true, true, true, true, true, true, true, true, true, true, true, true, true, true, true, false] rfl rfl (any_of HT_.out (by kernel_rfl)) (fun _ _ _ h => h) (Or.inl ⟨by rfl, ?_⟩) ?_ ?_
         rotate_left
         ·intro w'
          go_simp
          with_reducible rfl
         rotate_left
         ·simp only [Act.put, q1_, q2_, q3_, i64_w, i32_w]
          rfl
         refine pure_ (i := 24) (N := some 41) (v := ?_) (a' := ?_) #[true, true, true, true, true, true, true, true, true, true, true, true, true, true, true, true, true, true, true, true, true, true, true, true, true] rfl rfl (any_of HT_.out (by kernel_rfl)) (fun _ _ _ h => h) (Or.inl ⟨by rfl, ?_⟩) ?_ ?_
         rotate_left
         ·intro w'
          go_simp
          with_reducible rfl
         rotate_left
         ·simp only [Act.put, q1_, q2_, q3_, i64_w, i32_w]
          rfl
         refine done_ (done_of HT_.out (by kernel_rfl)) ?_
         try go_wp2
         go_ret
         exact ⟨by first | rfl | (simp [errW_none, errW_some] <;> rfl) | (simp [*, errW_none, errW_some] <;> rfl), by repeat (first | (with_reducible first | exact HB.out | apply below_alloc | apply pw_below_drewN | apply below_drew1) | exact HB.out)⟩
       ·rw [if_neg c7] at H
        have c7b0 : (((rd_T40 l0 x5_1).f1) == ((rd_T40 l1 x5_1).f1)) = false := beq_eq_false_iff_ne.mpr c7
        have c7b1 : (((rd_T40 l0 x5_1).f1) != ((rd_T40 l1 x5_1).f1)) = true := bne_iff_ne.mpr c7
        obtain rfl := Option.some.inj H
        try go_wp2
        have n0_ := Aside0.mk (below_drew1 HB.out)
        clear HB
        have HB := n0_
        clear n0_
        have p177 : 0 ≤ (x5_1 : Int) := of_decide_eq_true (by assumption)
        have q177 : x5_1 < (l0.length : Int) := of_decide_eq_true (by assumption)
        obtain ⟨ad177, A177_1, c177_1, A177_2, c177_2, e177, hx177_0, hx177_1, hx177_2, hx177_3, hl177_1, hi177_1, hl177_2, hi177_2⟩ := at_T40 HR0.out x5_1 p177 q177
        have hw177_3 := hx177_3
        have hw177_2 := hx177_2
        have hw177_1 := hx177_1
        have hw177_0 := hx177_0
        cases e177
        replace hx177_0 := pw_cell_below HB.out hx177_0
        replace hx177_1 := pw_cell_below HB.out hx177_1
        replace hx177_2 := pw_cell_below HB.out hx177_2
        replace hx177_3 := pw_cell_below HB.out hx177_3
        have HR177_1 := Aside0.mk hi177_1
        have HC177_1 := Aside0.mk hl177_1
        clear hi177_1 hl177_1
        have HR177_2 := Aside0.mk hi177_2
        have HC177_2 := Aside0.mk hl177_2
        clear hi177_2 hl177_2
        replace p177 := eq_true p177
        replace q177 := eq_true q177
        have p178 : 0 ≤ (x5_1 : Int) := of_decide_eq_true (by assumption)
        have q178 : x5_1 < (l1.length : Int) := of_decide_eq_true (by assumption)
        obtain ⟨ad178, A178_1, c178_1, A178_2, c178_2, e178, hx178_0, hx178_1, hx178_2, hx178_3, hl178_1, hi178_1, hl178_2, hi178_2⟩ := at_T40 HR1.out x5_1 p178 q178
        have hw178_3 := hx178_3
        have hw178_2 := hx178_2
        have hw178_1 := hx178_1
        have hw178_0 := hx178_0
        cases e178
        replace hx178_0 := pw_cell_below HB.out hx178_0
        replace hx178_1 := pw_cell_below HB.out hx178_1
        replace hx178_2 := pw_cell_below HB.out hx178_2
        replace hx178_3 := pw_cell_below HB.out hx178_3
        have HR178_1 := Aside0.mk hi178_1
        have HC178_1 := Aside0.mk hl178_1
        clear hi178_1 hl178_1
        have HR178_2 := Aside0.mk hi178_2
        have HC178_2 := Aside0.mk hl178_2
        clear hi178_2 hl178_2
        replace p178 := eq_true p178
        replace q178 := eq_true q178
        refine start_ (n := 25) (S := fun w' => w'.cell? (ad177.add ((x5_1).toNat * 4)) = some (.int .i64 ((rd_T40 l0 x5_1).f0.f0)) ∧ w'.cell? ⟨(ad177.add ((x5_1).toNat * 4)).block, (ad177.add ((x5_1).toNat * 4)).off + 1, none⟩ = some (.slice A177_1 ((rd_T40 l0 x5_1).f0.f1).length c177_1) ∧ w'.cell? ⟨(ad177.add ((x5_1).toNat * 4)).block, (ad177.add ((x5_1).toNat * 4)).off + 2, none⟩ = some (.slice A177_2 ((rd_T40 l0 x5_1).f0.f2).length c177_2) ∧ w'.cell? ⟨(ad177.add ((x5_1).toNat * 4)).block, (ad177.add ((x5_1).toNat * 4)).off + 3, none⟩ = some (.int .u64 ((rd_T40 l0 x5_1).f1)) ∧ w'.cell? (ad178.add ((x5_1).toNat * 4)) = some (.int .i64 ((rd_T40 l1 x5_1).f0.f0)) ∧ w'.cell? ⟨(ad178.add ((x5_1).toNat * 4)).block, (ad178.add ((x5_1).toNat * 4)).off + 1, none⟩ = some (.slice A178_1 ((rd_T40 l1 x5_1).f0.f1).length c178_1) ∧ w'.cell? ⟨(ad178.add ((x5_1).toNat * 4)).block, (ad178.add ((x5_1).toNat * 4)).off + 2, none⟩ = some (.slice A178_2 ((rd_T40 l1 x5_1).f0.f2).length c178_2) ∧ w'.cell? ⟨(ad178.add ((x5_1).toNat * 4)).block, (ad178.add ((x5_1).toNat * 4)).off + 3, none⟩ = some (.int .u64 ((rd_T40 l1 x5_1).f1))) (ds := []) #[false, false, false, false, false, false, false, false, false, false, false, false, false, false, false, false, false, false, false, false, false, false, false, false, false] (by kernel_rfl) rfl rfl ⟨(pw_cell_below HB.out hw177_0), (pw_cell_below HB.out hw177_1), (pw_cell_below HB.out hw177_2), (pw_cell_below HB.out hw177_3), (pw_cell_below HB.out hw178_0), (pw_cell_below HB.out hw178_1), (pw_cell_below HB.out hw178_2), (pw_cell_below HB.out hw178_3)⟩ (fun hHeld => ?_); refine with_tabW gristmillref04_Is.tab6 gristmillref04_Is.bits6 (fun HT_ HW_ => ?_)
        generalize wr.drew = w14 at HB HR177_1 HR177_2 HR178_1 HR178_2 hx177_0 hx177_1 hx177_2 hx177_3 hx178_0 hx178_1 hx178_2 hx178_3 hHeld ⊢
        refine pure_ (i := 0) (N := some 17) (v := ?_) (a' := ?_) #[true, false, false, false, false, false, false, false, false, false, false, false, false, false, false, false, false, false, false, false, false, false, false, false, false] rfl rfl (any_of HT_.out (by kernel_rfl)) (fun _ _ _ h => h) (Or.inl ⟨by rfl, ?_⟩) ?_ ?_
        rotate_left
        ·intro w'
         go_simp
         with_reducible rfl
        rotate_left
        ·simp only [Act.put, q1_, q2_, q3_, i64_w, i32_w]
         rfl
        refine pure_ (i := 1) (N := some 18) (v := ?_) (a' := ?_) #[true, true, false, false, false, false, false, false, false, false, false, false, false, false, false, false, false, false, false, false, false, false, false, false, false] rfl rfl (any_of HT_.out (by kernel_rfl)) (fun _ _ _ h => h) (Or.inl ⟨by rfl, ?_⟩) ?_ ?_
        rotate_left
        ·intro w'
         go_simp
         with_reducible rfl
        rotate_left
        ·simp only [Act.put, q1_, q2_, q3_, i64_w, i32_w]
         rfl
        refine pure_ (i := 2) (N := some 19) (v := ?_) (a' := ?_) #[true, true, true, false, false, false, false, false, false, false, false, false, false, false, false, false, false, false, false, false, false, false, false, false, false] rfl rfl (any_of HT_.out (by kernel_rfl)) (fun _ _ _ h => h) (Or.inl ⟨by rfl, ?_⟩) ?_ ?_
        rotate_left
        ·intro w'
         go_simp
         with_reducible rfl
        rotate_left
        ·simp only [Act.put, q1_, q2_, q3_, i64_w, i32_w]
         rfl
        refine pure_ (i := 3) (N := some 20) (v := ?_) (a' := ?_) #[true, true, true, true, false, false, false, false, false, false, false, false, false, false, false, false, false, false, false, false, false, false, false, false, false] rfl rfl (any_of HT_.out (by kernel_rfl)) (fun _ _ _ h => h) (Or.inl ⟨by rfl, ?_⟩) ?_ ?_
        rotate_left
        ·intro w'
         go_simp
         with_reducible rfl
        rotate_left
        ·simp only [Act.put, q1_, q2_, q3_, i64_w, i32_w]
         rfl
        refine pure_ (i := 5) (N := some 22) (v := ?_) (a' := ?_) #[true, true, true, true, false, true, false, false, false, false, false, false, false, false, false, false, false, false, false, false, false, false, false, false, false] rfl rfl (any_of HT_.out (by kernel_rfl)) (fun _ _ _ h => h) (Or.inl ⟨by rfl, ?_⟩) ?_ ?_
        rotate_left
        ·intro w'
         go_simp
         with_reducible rfl
        rotate_left
        ·simp only [Act.put, q1_, q2_, q3_, i64_w, i32_w]
         rfl
        refine pure_ (i := 6) (N := some 23) (v := ?_) (a' := ?_) #[true, true, true, true, false, true, true, false, false, false, false, false, false, false, false, false, false, false, false, false, false, false, false, false, false] rfl rfl (any_of HT_.out (by kernel_rfl)) (fun _ _ _ h => h) (Or.inl ⟨by rfl, ?_⟩) ?_ ?_
        rotate_left
        ·intro w'
         go_simp
         with_reducible rfl
        rotate_left
        ·simp only [Act.put, q1_, q2_, q3_, i64_w, i32_w]
         rfl
        refine pure_ (i := 7) (N := some 24) (v := ?_) (a' := ?_) #[true, true, true, true, false, true, true, true, false, false, false, false, false, false, false, false, false, false, false, false, false, false, false, false, false] rfl rfl (any_of HT_.out (by kernel_rfl)) (fun _ _ _ h => h) (Or.inl ⟨by rfl, ?_⟩) ?_ ?_
        rotate_left
        ·intro w'
         go_simp
         with_reducible rfl
        rotate_left
        ·simp only [Act.put, q1_, q2_, q3_, i64_w, i32_w]
         rfl
        refine pure_ (i := 8) (N := some 25) (v := ?_) (a' := ?_) #[true, true, true, true, false, true, true, true, true, false, false, false, false, false, false, false, false, false, false, false, false, false, false, false, false] rfl rfl (any_of HT_.out (by kernel_rfl)) (fun _ _ _ h => h) (Or.inl ⟨by rfl, ?_⟩) ?_ ?_
        rotate_left
        ·intro w'
         go_simp
         with_reducible rfl
        rotate_left
        ·simp only [Act.put, q1_, q2_, q3_, i64_w, i32_w]
         rfl
        refine take_ (i := 4) (N := some 21) (v := ?_) (a' := ?_) #[true, true, true, true, true, true, true, true, true, false, false, false, false, false, false, false, false, false, false, false, false, false, false, false, false] rfl rfl (take_ofW HT_.out HW_.out (by kernel_rfl)) (fun _ _ _ h => h) (Or.inl ⟨by rfl, ?_⟩) hHeld ?_ ?_
        rotate_left
        ·rintro w' ⟨s0, s1, s2, s3, s4, s5, s6, s7⟩
         go_simp
         with_reducible rfl
        rotate_left
        ·simp only [Act.put, q1_, q2_, q3_, i64_w, i32_w]
         rfl
        refine take_ (i := 9) (N := some 26) (v := ?_) (a' := ?_) #[true, true, true, true, true, true, true, true, true, true, false, false, false, false, false, false, false, false, false, false, false, false, false, false, false] rfl rfl (take_ofW HT_.out HW_.out (by kernel_rfl)) (fun _ _ _ h => h) (Or.inl ⟨by rfl, ?_⟩) hHeld ?_ ?_
        rotate_left
        ·rintro w' ⟨s0, s1, s2, s3, s4, s5, s6, s7⟩
         go_simp
         with_reducible rfl
        rotate_left
        ·simp only [Act.put, q1_, q2_, q3_, i64_w, i32_w]
         rfl
        refine pure_ (i := 10) (N := some 27) (v := ?_) (a' := ?_) #[true, true, true, true, true, true, true, true, true, true, true, false, false, false, false, false, false, false, false, false, false, false, false, false, false] rfl rfl (any_of HT_.out (by kernel_rfl)) (fun _ _ _ h => h) (Or.inl ⟨by rfl, ?_⟩) ?_ ?_
        rotate_left
        ·intro w'
         go_simp
         with_reducible rfl
        rotate_left
        ·simp only [Act.put, q1_, q2_, q3_, i64_w, i32_w]
         rfl
        refine pure_ (i := 11) (N := some 28) (v := ?_) (a' := ?_) #[true, true, true, true, true, true, true, true, true, true, true, true, false, false, false, false, false, false, false, false, false, false, false, false, false] rfl rfl (any_of HT_.out (by kernel_rfl)) (fun _ _ _ h => h) (Or.inl ⟨by rfl, ?_⟩) ?_ ?_
        rotate_left
        ·intro w'
         go_simp
         with_reducible rfl
        rotate_left
        ·simp only [Act.put, q1_, q2_, q3_, i64_w, i32_w]
         rfl
        refine pure_ (i := 12) (N := some 29) (v := undef) (a' := ?_) #[true, true, true, true, true, true, true, true, true, true, true, true, true, false, false, false, false, false, false, false, false, false, false, false, false] rfl rfl (any_of HT_.out (by kernel_rfl)) (fun _ _ _ h => h) (Or.inr ⟨by rfl, rfl⟩) ?_ ?_
        rotate_left
        ·simp only [Act.put, q1_, q2_, q3_, i64_w, i32_w]
         rfl
        refine pure_ (i := 13) (N := some 30) (v := undef) (a' := ?_) #[true, true, true, true, true, true, true, true, true, true, true, true, true, true, false, false, false, false, false, false, false, false, false, false, false] rfl rfl (any_of HT_.out (by kernel_rfl)) (fun _ _ _ h => h) (Or.inr ⟨by rfl, rfl⟩) ?_ ?_
        rotate_left
        ·simp only [Act.put, q1_, q2_, q3_, i64_w, i32_w]
         rfl
        refine pure_ (i := 14) (N := some 31) (v := undef) (a' := ?_) #[true, true, true, true, true, true, true, true, true, true, true, true, true, true, true, false, false, false, false, false, false, false, false, false, false] rfl rfl (any_of HT_.out (by kernel_rfl)) (fun _ _ _ h => h) (Or.inr ⟨by rfl, rfl⟩) ?_ ?_
        rotate_left
        ·simp only [Act.put, q1_, q2_, q3_, i64_w, i32_w]
         rfl
        refine pure_ (i := 15) (N := some 32) (v := undef) (a' := ?_) #[true, true, true, true, true, true, true, true, true, true, true, true, true, true, true, true, false, false, false, false, false, false, false, false, false] rfl rfl (any_of HT_.out (by kernel_rfl)) (fun _ _ _ h => h) (Or.inr ⟨by rfl, rfl⟩) ?_ ?_
        rotate_left
        ·simp only [Act.put, q1_, q2_, q3_, i64_w, i32_w]
         rfl
        refine pure_ (i := 16) (N := some 33) (v := undef) (a' := ?_) #[true, true, true, true, true, true, true, true, true, true, true, true, true, true, true, true, true, false, false, false, false, false, false, false, false] rfl rfl (any_of HT_.out (by kernel_rfl)) (fun _ _ _ h => h) (Or.inr ⟨by rfl, rfl⟩) ?_ ?_
        rotate_left
        ·simp only [Act.put, q1_, q2_, q3_, i64_w, i32_w]
         rfl
        refine pure_ (i := 17) (N := some 34) (v := undef) (a' := ?_) #[true, true, true, true, true, true, true, true, true, true, true, true, true, true, true, true, true, true, false, false, false, false, false, false, false] rfl rfl (any_of HT_.out (by kernel_rfl)) (fun _ _ _ h => h) (Or.inr ⟨by rfl, rfl⟩) ?_ ?_
        rotate_left
        ·simp only [Act.put, q1_, q2_, q3_, i64_w, i32_w]
         rfl
        refine pure_ (i := 18) (N := some 35) (v := undef) (a' := ?_) #[true, true, true, true, true, true, true, true, true, true, true, true, true, true, true, true, true, true, true, false, false, false, false, false, false] rfl rfl (any_of HT_.out (by kernel_rfl)) (fun _ _ _ h => h) (Or.inr ⟨by rfl, rfl⟩) ?_ ?_
        rotate_left
        ·simp only [Act.put, q1_, q2_, q3_, i64_w, i32_w]
         rfl
        refine pure_ (i := 19) (N := some 36) (v := undef) (a' := ?_) #[true, true, true, true, true, true, true, true, true, true, true, true, true, true, true, true, true, true, true, true, false, false, false, false, false] rfl rfl (any_of HT_.out (by kernel_rfl)) (fun _ _ _ h => h) (Or.inr ⟨by rfl, rfl⟩) ?_ ?_
        rotate_left
        ·simp only [Act.put, q1_, q2_, q3_, i64_w, i32_w]
         rfl
        refine pure_ (i := 20) (N := some 37) (v := undef) (a' := ?_) #[true, true, true, true, true, true, true, true, true, true, true, true, true, true, true, true, true, true, true, true, true, false, false, false, false] rfl rfl (any_of HT_.out (by kernel_rfl)) (fun _ _ _ h => h) (Or.inr ⟨by rfl, rfl⟩) ?_ ?_
        rotate_left
        ·simp only [Act.put, q1_, q2_, q3_, i64_w, i32_w]
         rfl
        refine pure_ (i := 21) (N := some 38) (v := undef) (a' := ?_) #[true, true, true, true, true, true, true, true, true, true, true, true, true, true, true, true, true, true, true, true, true, true, false, false, false] rfl rfl (any_of HT_.out (by kernel_rfl)) (fun _ _ _ h => h) (Or.inr ⟨by rfl, rfl⟩) ?_ ?_
        rotate_left
        ·simp only [Act.put, q1_, q2_, q3_, i64_w, i32_w]
         rfl
        refine pure_ (i := 22) (N := some 39) (v := undef) (a' := ?_) #[true, true, true, true, true, true, true, true, true, true, true, true, true, true, true, true, true, true, true, true, true, true, true, false, false] rfl rfl (any_of HT_.out (by kernel_rfl)) (fun _ _ _ h => h) (Or.inr ⟨by rfl, rfl⟩) ?_ ?_
        rotate_left
        ·simp only [Act.put, q1_, q2_, q3_, i64_w, i32_w]
         rfl
        refine pure_ (i := 23) (N := some 40) (v := undef) (a' := ?_) #[true, true, true, true, true, true, true, true, true, true, true, true, true, true, true, true, true, true, true, true, true, true, true, true, false] rfl rfl (any_of HT_.out (by kernel_rfl)) (fun _ _ _ h => h) (Or.inr ⟨by rfl, rfl⟩) ?_ ?_
        rotate_left
        ·simp only [Act.put, q1_, q2_, q3_, i64_w, i32_w]
         rfl
        refine pure_ (i := 24) (N := some 41) (v := ?_) (a' := ?_) #[true, true, true, true, true, true, true, true, true, true, true, true, true, true, true, true, true, true, true, true, true, true, true, true, true] rfl rfl (any_of HT_.out (by kernel_rfl)) (fun _ _ _ h => h) (Or.inl ⟨by rfl, ?_⟩) ?_ ?_
        rotate_left
        ·intro w'
         go_simp
         with_reducible rfl
        rotate_left
        ·simp only [Act.put, q1_, q2_, q3_, i64_w, i32_w]
         rfl
        refine done_ (done_of HT_.out (by kernel_rfl)) ?_
        try go_wp2
        go_ret
        exact ⟨by first | rfl | (simp [errW_none, errW_some] <;> rfl) | (simp [*, errW_none, errW_some] <;> rfl), by repeat (first | (with_reducible first | exact HB.out | apply below_alloc | apply pw_below_drewN | apply below_drew1) | exact HB.out)⟩
      ·rw [if_neg c6] at H
       exact absurd H (by simp)
     ·rw [if_neg c5] at H
      exact absurd H (by simp)
    ·rw [if_neg c4] at H
     have c4b0 : decide (x5_1 < (l0.length : Int)) = false := decide_eq_false c4
     clear c4
     obtain rfl := Option.some.inj H
     go_wp2
     go_ret
     exact ⟨by first | rfl | (simp [errW_none, errW_some] <;> rfl) | (simp [*, errW_none, errW_some] <;> rfl), by repeat (first | (with_reducible first | exact HB.out | apply below_alloc | apply pw_below_drewN | apply below_drew1) | exact HB.out)⟩
 ·rw [if_neg c3] at H
  have c3b0 : ((l0.length : Int) == (l1.length : Int)) = false := beq_eq_false_iff_ne.mpr c3
  have c3b1 : ((l0.length : Int) != (l1.length : Int)) = true := bne_iff_ne.mpr c3
  have c3b2 : (l0.length == l1.length) = false := by first | simpa using c3 | (simp at c3 ⊢; omega)
  obtain rfl := Option.some.inj H
  go_enter Try.func18, Try.ntmps18
  go_wp2
  go_ret
  exact ⟨by first | rfl | (simp [errW_none, errW_some] <;> rfl) | (simp [*, errW_none, errW_some] <;> rfl), by repeat (first | (with_reducible first | exact HB.out | apply below_alloc | apply pw_below_drewN | apply below_drew1) | exact HB.out)⟩
end Go.Proofs.Ytfeeahjaeapkoaa.P
end

section
namespace Go.Proofs.Ytfeeahjaeapkoaa.Ext
set_option linter.unusedVariables false
set_option linter.unusedSimpArgs false
open Go.RowKit Go.Proofs.YtfeeahjaeapkoaaW.PrintWords Go.Proofs.Ytfeeahjaeapkoaa.P
theorem ref_cmp (x : M) (f : F) (hx : Small x) (hf : Small (f, 0)) (k : Nat) (hk : 70368744177700 ≤ k) : gristmillref04_Compare.f k (s40 x).f0.f0 (s40 x).f0.f1 (s40 x).f0.f2 f.1 f.2.1 f.2.2 = some (fC x.1 f) := by
  have h1 := hx.1
  have h2 := hx.2
  have h3 := hf.1
  have h4 := hf.2
  simp only at h3 h4
  exact ref_is x.1.1 f.1 x.1.2.1 f.2.1 x.1.2.2 f.2.2 (by omega) (by omega) (by omega) (by omega) k (by have := Nat.max_le.2 ⟨h1, h3⟩; have := Nat.max_le.2 ⟨h2, h4⟩; omega)
theorem e_wrap (i : Nat) (h : i < 4611686018427387904) : wrap64 ((i : Int) + 1) = ((i + 1 : Nat) : Int) := by unfold wrap64; omega
theorem is_loop (a b : List M) (ha : ∀ x ∈ a, Small x) (hb : ∀ x ∈ b, Small x) (hl : a.length = b.length) (hn : a.length ≤ 1099511627776) : ∀ (d i : Nat), i + d = a.length → ∀ k, 70368744177702 + d ≤ k → gristmillref04_Is.l0 k (a.map s40) (b.map s40) (i : Int) = some (decide (a.drop i = b.drop i)) := by
  intro d
  have hA : (a.map s40).length = a.length := List.length_map ..
  have hB : (b.map s40).length = b.length := List.length_map ..
  induction d with
  | zero =>
    intro i hi k hk
    obtain ⟨k, rfl⟩ : ∃ k', k = k' + 1 := ⟨k - 1, by omega⟩
    rw [gristmillref04_Is.l0, if_neg (by omega), List.drop_of_length_le (by omega), List.drop_of_length_le (by omega)]
    rfl
  | succ d ih =>
    intro i hi k hk
    obtain ⟨k, rfl⟩ : ∃ k', k = k' + 1 := ⟨k - 1, by omega⟩
    have hia : i < a.length := by omega
    have hib : i < b.length := by omega
    have hc := ref_cmp a[i] b[i].1 (ha _ (List.getElem_mem hia)) (show Small (b[i].1, 0) from hb b[i] (List.getElem_mem hib)) k (by omega)
    rw [gristmillref04_Is.l0, if_pos (by omega), if_pos (by omega), if_pos (by omega), rd40_s a i hia, rd40_s b i hib, e_wrap i (by omega), List.drop_eq_getElem_cons hia, List.drop_eq_getElem_cons hib]
    have hc' : gristmillref04_Compare.f k (s40 a[i]).f0.f0 (s40 a[i]).f0.f1 (s40 a[i]).f0.f2 (s40 b[i]).f0.f0 (s40 b[i]).f0.f1 (s40 b[i]).f0.f2 = some (fC a[i].1 b[i].1) := hc
    rw [hc', Option.bind_some, ih (i + 1) (by omega) k (by omega)]
    by_cases h1 : a[i].2 = b[i].2
    · rw [if_pos (show (s40 a[i]).f1 = (s40 b[i]).f1 from h1)]
      by_cases h2 : fC a[i].1 b[i].1 = 0
      · have e : a[i] = b[i] := Prod.ext (fC_eq h2) h1
        rw [if_pos h2, e]
        congr 1
        exact decide_eq_decide.2 ⟨fun h => by rw [h], fun h => by injection h⟩
      · rw [if_neg h2]
        congr 1
        refine (decide_eq_false fun h => h2 ?_).symm
        injection h with h _
        rw [h]
        exact fC_self _
    · rw [if_neg (show ¬ (s40 a[i]).f1 = (s40 b[i]).f1 from h1)]
      congr 1
      refine (decide_eq_false fun h => h1 ?_).symm
      injection h with h _
      rw [h]
theorem ref_is_rows (a b : List M) (ha : ∀ x ∈ a, Small x) (hb : ∀ x ∈ b, Small x) (hn : a.length ≤ 1099511627776) (k : Nat) (hk : 70368744177702 + a.length ≤ k) : gristmillref04_Is.f k (a.map s40) (b.map s40) = some (decide (a = b)) := by
  unfold gristmillref04_Is.f
  rw [List.length_map, List.length_map]
  by_cases h : a.length = b.length
  · rw [if_pos (by omega)]
    have := is_loop a b ha hb h hn a.length 0 (by omega) k hk
    rw [List.drop_zero, List.drop_zero] at this
    exact this
  · rw [if_neg (by omega), decide_eq_false (fun e => h (by rw [e]))]
end Go.Proofs.Ytfeeahjaeapkoaa.Ext
end

section
namespace Go.Proofs.Ytfeeahjaeapkoaa.P
set_option linter.unusedVariables false
set_option linter.unusedSimpArgs false
open Go.RowKit Go.Proofs.YtfeeahjaeapkoaaW.PrintWords Go.Proofs.YtfeeahjaeapkoaaW.PrintLast Go.Proofs.YtfeeahjaeapkoaaW.PrintMore Go.Proofs.Ytfeeahjaeapkoaa.Lib Go.Proofs.Ytfeeahjaeapkoaa.Ext
set_option maxRecDepth 100000 in
set_option maxHeartbeats 400000 in
theorem within1_calls (q : Q) (gs : Nat) (a b : Int) (w : World) (hb : w.heap[gs]? = some (.cells #[.int .i64 a, .int .i64 b] 44 (0, 0))) :
    Calls Try.prog 35 (#[] ++ #[.agg #[.int .i64 q.1, .slice q.2.1.1 q.2.1.2.1 q.2.1.2.2, .slice q.2.2.1.1 q.2.2.1.2.1 q.2.2.1.2.2]] ++ #[.pointer (some ⟨gs, 0, none⟩)]) w fun e w' => e = .returned (.bool (decide (a ≤ q.1) && decide (q.1 < b))) ∧ Below w.heap.size w w' := by
  show Calls Try.prog 35 #[.agg #[.int .i64 q.1, .slice q.2.1.1 q.2.1.2.1 q.2.1.2.2, .slice q.2.2.1.1 q.2.2.1.2.1 q.2.2.1.2.2], .pointer (some ⟨gs, 0, none⟩)] w fun e w' => e = .returned (.bool (decide (a ≤ q.1) && decide (q.1 < b))) ∧ Below w.heap.size w w'
  have HS := Aside0.mk hb
  clear hb
  by_cases h1 : a ≤ q.1
  · by_cases h2 : q.1 < b
    · have D1 := decide_eq_true h1
      have D2 := decide_eq_true h2
      have HD := Aside0.mk (And.intro D1 D2)
      clear D1 D2
      go_enter Try.func35, Try.ntmps35
      go_wp2_with (first | (((with_reducible refine gate_dst (N := 2) rfl ?_); refine box_event ?hg (N := 2) ?hd (cs := #[.int .i64 q.1, .slice q.2.1.1 q.2.1.2.1 q.2.1.2.2, .slice q.2.2.1.1 q.2.2.1.2.1 q.2.2.1.2.2]) (t := 27) ?hr ?_; (case hd => rfl); (case hg => rfl); (case hr => first | (go_simp; done) | (go_simp; rfl)); intro g1 hg w1 hbox hb; have GE1 := Aside0.mk (Nat.le_of_eq hg.symm); have BK1 := Aside0.mk hbox; have HX1 := Aside0.mk hb; clear hg hbox hb); have BKs := Aside0.mk (blk_below HS.out HX1.out); (have hg1_0 : w1.cell? ⟨g1, 0, none⟩ = some (.int .i64 q.1) := (blk_cell BK1.out 0).trans rfl; have hfg1_0 := blk_frozen BK1.out 0; have hg1_1 : w1.cell? ⟨g1, 1, none⟩ = some (.slice q.2.1.1 q.2.1.2.1 q.2.1.2.2) := (blk_cell BK1.out 1).trans rfl; have hfg1_1 := blk_frozen BK1.out 1; have hg1_2 : w1.cell? ⟨g1, 2, none⟩ = some (.slice q.2.2.1.1 q.2.2.1.2.1 q.2.2.1.2.2) := (blk_cell BK1.out 2).trans rfl; have hfg1_2 := blk_frozen BK1.out 2); (have hgs_0 : w1.cell? ⟨gs, 0, none⟩ = some (.int .i64 a) := (blk_cell BKs.out 0).trans rfl; have hfgs_0 := blk_frozen BKs.out 0; have hgs_1 : w1.cell? ⟨gs, 1, none⟩ = some (.int .i64 b) := (blk_cell BKs.out 1).trans rfl; have hfgs_1 := blk_frozen BKs.out 1)) | fail)
      go_ret
      refine ⟨?_, HX1.out⟩
      have h1 := HD.out.1
      have h2 := HD.out.2
      simp [h1, h2] at *
      all_goals (simp [*])
    · have D1 := decide_eq_true h1
      have D2 := decide_eq_false h2
      have HD := Aside0.mk (And.intro D1 D2)
      have h2' := Int.not_lt.1 h2
      clear D1
      go_enter Try.func35, Try.ntmps35
      go_wp2_with (first | (((with_reducible refine gate_dst (N := 2) rfl ?_); refine box_event ?hg (N := 2) ?hd (cs := #[.int .i64 q.1, .slice q.2.1.1 q.2.1.2.1 q.2.1.2.2, .slice q.2.2.1.1 q.2.2.1.2.1 q.2.2.1.2.2]) (t := 27) ?hr ?_; (case hd => rfl); (case hg => rfl); (case hr => first | (go_simp; done) | (go_simp; rfl)); intro g1 hg w1 hbox hb; have GE1 := Aside0.mk (Nat.le_of_eq hg.symm); have BK1 := Aside0.mk hbox; have HX1 := Aside0.mk hb; clear hg hbox hb); have BKs := Aside0.mk (blk_below HS.out HX1.out); (have hg1_0 : w1.cell? ⟨g1, 0, none⟩ = some (.int .i64 q.1) := (blk_cell BK1.out 0).trans rfl; have hfg1_0 := blk_frozen BK1.out 0; have hg1_1 : w1.cell? ⟨g1, 1, none⟩ = some (.slice q.2.1.1 q.2.1.2.1 q.2.1.2.2) := (blk_cell BK1.out 1).trans rfl; have hfg1_1 := blk_frozen BK1.out 1; have hg1_2 : w1.cell? ⟨g1, 2, none⟩ = some (.slice q.2.2.1.1 q.2.2.1.2.1 q.2.2.1.2.2) := (blk_cell BK1.out 2).trans rfl; have hfg1_2 := blk_frozen BK1.out 2); (have hgs_0 : w1.cell? ⟨gs, 0, none⟩ = some (.int .i64 a) := (blk_cell BKs.out 0).trans rfl; have hfgs_0 := blk_frozen BKs.out 0; have hgs_1 : w1.cell? ⟨gs, 1, none⟩ = some (.int .i64 b) := (blk_cell BKs.out 1).trans rfl; have hfgs_1 := blk_frozen BKs.out 1)) | fail)
      go_ret
      refine ⟨?_, HX1.out⟩
      have h1 := HD.out.1
      have h2 := HD.out.2
      simp [h1, h2] at *
      all_goals (simp [*])
  · have D1 := decide_eq_false h1
    have HD := Aside0.mk D1
    have h1' := Int.not_le.1 h1
    go_enter Try.func35, Try.ntmps35
    go_wp2_with (first | (((with_reducible refine gate_dst (N := 2) rfl ?_); refine box_event ?hg (N := 2) ?hd (cs := #[.int .i64 q.1, .slice q.2.1.1 q.2.1.2.1 q.2.1.2.2, .slice q.2.2.1.1 q.2.2.1.2.1 q.2.2.1.2.2]) (t := 27) ?hr ?_; (case hd => rfl); (case hg => rfl); (case hr => first | (go_simp; done) | (go_simp; rfl)); intro g1 hg w1 hbox hb; have GE1 := Aside0.mk (Nat.le_of_eq hg.symm); have BK1 := Aside0.mk hbox; have HX1 := Aside0.mk hb; clear hg hbox hb); have BKs := Aside0.mk (blk_below HS.out HX1.out); (have hg1_0 : w1.cell? ⟨g1, 0, none⟩ = some (.int .i64 q.1) := (blk_cell BK1.out 0).trans rfl; have hfg1_0 := blk_frozen BK1.out 0; have hg1_1 : w1.cell? ⟨g1, 1, none⟩ = some (.slice q.2.1.1 q.2.1.2.1 q.2.1.2.2) := (blk_cell BK1.out 1).trans rfl; have hfg1_1 := blk_frozen BK1.out 1; have hg1_2 : w1.cell? ⟨g1, 2, none⟩ = some (.slice q.2.2.1.1 q.2.2.1.2.1 q.2.2.1.2.2) := (blk_cell BK1.out 2).trans rfl; have hfg1_2 := blk_frozen BK1.out 2); (have hgs_0 : w1.cell? ⟨gs, 0, none⟩ = some (.int .i64 a) := (blk_cell BKs.out 0).trans rfl; have hfgs_0 := blk_frozen BKs.out 0; have hgs_1 : w1.cell? ⟨gs, 1, none⟩ = some (.int .i64 b) := (blk_cell BKs.out 1).trans rfl; have hfgs_1 := blk_frozen BKs.out 1)) | fail)
    go_ret
    refine ⟨?_, HX1.out⟩
    have h1 := HD.out
    simp [h1] at *
    all_goals (simp [*])
def withinT (a b : Int) (x : F) : Bool := decide (a ≤ x.1) && decide (x.1 < b)
def fact_Within.f (l0 : List (S40)) (a1_0 : Int) (a1_1 : Int) : Option (List (S40)) := if l0.length ≤ sortK ∧ l0.all small40 = true then some (bag40 l0 (withinT a1_0 a1_1)) else none
set_option maxRecDepth 100000 in
set_option maxHeartbeats 400000 in
theorem fact_Within.calls (A0 : Option Addr) (c0 : Nat) (l0 : List (S40)) (a1_0 : Int) (a1_1 : Int) (r : List (S40)) (w : World) (hr0 : Kd.C k40 w A0 l0.length l0) (hc0 : l0.length ≤ c0) (h : fact_Within.f l0 a1_0 a1_1 = some r) :
    Calls Try.prog 19 #[.slice A0 l0.length c0, .agg #[.int .i64 a1_0, .int .i64 a1_1]] w fun e w' => ∃ v0_ : Value, e = .returned v0_ ∧ Kd.R k40 40 w' w.heap.size (fun _ => True) v0_ r ∧ Below w.heap.size w w' := by
  unfold fact_Within.f at h
  split at h
  · rename_i hh
    injection h with h
    subst h
    have HH := Aside0.mk hh
    have HR := Aside0.mk hr0
    clear hh hr0 hc0
    generalize l0.length = n at *
    go_enter Try.func19, Try.ntmps19
    go_wp2_with (first
      | (((with_reducible refine gate_dst (N := 3) rfl ?_); refine box_event ?hg (N := 3) ?hd (cs := #[.int .i64 a1_0, .int .i64 a1_1]) (t := 44) ?hr ?_; (case hd => rfl); (case hg => rfl); (case hr => first | (go_simp; done) | (go_simp; rfl)); intro g1 hg w1 hbox hb; have GE1 := Aside0.mk (Nat.le_of_eq hg.symm); have BK1 := Aside0.mk hbox; have HX1 := Aside0.mk hb; clear hg hbox hb))
      | (go_at_call 33; refine (bag40_calls n c0 A0 l0 35 #[.pointer (some ⟨g1, 0, none⟩)] (withinT a1_0 a1_1) w1 (Kd.C_below HR.out HX1.out) HH.out.1 HH.out.2 ⟨_, Try.func35, rfl, rfl⟩ (fun w' hb q x hq => by have h := within1_calls q g1 a1_0 a1_1 w' (blk_below BK1.out hb); rw [show (decide (a1_0 ≤ q.1) && decide (q.1 < a1_1)) = withinT a1_0 a1_1 x by unfold withinT; rw [hq.t]] at h; exact h)).mono ?_; rintro e w2 ⟨v2, rfl, hr2, hb2⟩; have HR2 := Aside0.mk hr2; have HB2 := Aside0.mk (below_then HX1.out HX1.out.size hb2); clear hr2 hb2)
      | fail)
    go_ret
    exact ⟨v2, rfl, Kd.R_lower HR2.out HX1.out.size, HB2.out⟩
  · cases h
end Go.Proofs.Ytfeeahjaeapkoaa.P
end

section
namespace Go.Proofs.Ytfeeahjaeapkoaa.Ext
set_option linter.unusedVariables false
set_option linter.unusedSimpArgs false
open Go.RowKit Go.Proofs.YtfeeahjaeapkoaaW.PrintWords Go.Proofs.YtfeeahjaeapkoaaW.PrintLast Go.Proofs.YtfeeahjaeapkoaaW.PrintMore Go.Proofs.Ytfeeahjaeapkoaa.Lib Go.Proofs.Ytfeeahjaeapkoaa.P
theorem R_shape {α : Type} {d : Kd α} {e : Nat} {w : World} {base : Nat} {ok : Nat → Prop} {v : Value} {xs : List α} (h : d.R e w base ok v xs) {b : Nat} (hb : v.ownBlock = some b) : ∃ c, v = .slice (some ⟨b, 0, none⟩) xs.length c ∧ b < w.heap.size := by
  have hlt := Kd.R_lt h b hb
  obtain ⟨_, inner, ho, _⟩ := h
  rcases ho.2 with ⟨e1, _⟩ | ⟨g, cap, cur, e1, hg, _⟩
  · subst e1; cases hb
  · subst e1
    injection hb with hb
    subst hb
    exact ⟨cap, rfl, hlt⟩
def m27 (x : S27) : M := ((x.f0, x.f1, x.f2), 1)
def Small27 (x : S27) : Prop := x.f1.length ≤ 8796093022208 ∧ x.f2.length ≤ 17592186044416
inductive RelG (w : World) (g n c : Nat) (l : List S27) (v : Value) (w' : World) : Prop
  | mk (i : Nat) (ys : List Q) (e : v = .int .i64 i) (hi : i ≤ n) (hrow : kq.R 40 w' w.heap.size (fun _ => True) (.slice (some ⟨g, 0, none⟩) n c) ys) (hb : Below w.heap.size w w') (hk : ∀ j, j < i → Fl w (ys.getD j zQ) (m27 (rd_T27 l j)).1 ∧ (ys.getD j zQ).2.2.2 = 1)
set_option maxRecDepth 100000 in
set_option maxHeartbeats 1600000 in
theorem Bag_calls (K : Nat) (hK : K ≤ 1099511627776) (hsort : SortUpto K) (n c : Nat) (A : Option Addr) (l : List S27) (w : World) (hC : Kd.C k27 w A n l) (hn : n ≤ K) (hs : ∀ x ∈ l, Small27 x) :
    Calls Try.prog 16 #[.slice A n c] w fun e w' => ∃ v, e = .returned v ∧ k40.R 40 w' w.heap.size (fun _ => True) v ((bagOf (l.map m27)).map s40) ∧ Below w.heap.size w w' := by
  have HC := Aside0.mk hC
  have HS := Aside0.mk hs
  have HL := Aside0.mk (show l.length = n from hC.1)
  have HSort := Aside0.mk hsort
  clear hC hs hsort
  go_enter Try.func16, Try.ntmps16
  go_upto_region 2 with (first
    | ((with_reducible refine gate_dst (N := 8) rfl ?_); refine Kd.R_make kq (w0 := w) w.heap.size 40 rfl (N := 8) rfl 36 _ _ rfl (n : Int) rfl rfl Try.underlying36 (.agg #[.int .i64 0, .slice none 0 0, .slice none 0 0, .int .u64 0]) 64 infoMany rfl (show 0 < 4 from by decide) (by decide) zQ (ok := fun _ => True) (okp := fun _ => True) ?hz (fun _ h => h) trivial (by omega) (by omega) (Below.refl _ _) (Nat.le_refl _) ?_; (case hz => exact kq_M.2 rfl); intro v6 w6 ho6 hb6 hg6 ha6; rw [Int.toNat_natCast] at ho6; obtain ⟨g, hv6, hge6⟩ := ha6; obtain ⟨c6, rfl, hlt6⟩ := R_shape ho6 hv6; rw [List.length_replicate] at ho6 ⊢; have HO := Aside0.mk ho6; have HB := Aside0.mk hb6; have HG := Aside0.mk hge6; clear ho6 hb6 hg6 hv6 hge6 hlt6)
    | fail)
  go_wp2_with fail
  go_loopw [11] (fun v11 w' => RelG w g n c6 l v11 w') (fun v11 _ => n - (intOf v11).toNat)
  case atStart => exact .mk 0 _ rfl (Nat.zero_le _) HO.out HB.out (fun j h => absurd h (Nat.not_lt_zero _))
  case round =>
    clear HO HB
    obtain ⟨i, ys, rfl, hi, hR, hB, hk⟩ := hrel
    have HR := Aside0.mk hR
    have HB := Aside0.mk hB
    have HKn := Aside0.mk hk
    clear hR hB hk
    by_cases hlt : i < n
    · have hii : (i : Int) < (n : Int) := by omega
      obtain ⟨ad, A1, c1, A2, c2, rfl, d0, d1, d2, l1, g1, l2, g2⟩ := at_T27 HC.out (i : Int) (by omega) hii
      simp only [Int.toNat_natCast] at d0 d1 d2
      have HSm := Aside0.mk (HS.out (rd_T27 l i) (by
        have := HL.out
        unfold rd_T27
        rw [Int.toNat_natCast, List.getD_eq_getElem?_getD, List.getElem?_eq_getElem (by omega)]
        exact List.getElem_mem _))
      generalize hx : rd_T27 l i = x at *
      have HX := Aside0.mk hx
      have HFl := Aside0.mk (show Fl w (x.f0, (A1, x.f1.length, c1), (A2, x.f2.length, c2), 1) (m27 x).1 from ⟨rfl, rfl, l1, g1, rfl, l2, g2, HSm.out.1, HSm.out.2⟩)
      clear hx l1 g1 l2 g2
      have d0 := pw_cell_below HB.out d0
      have d1 := pw_cell_below HB.out d1
      have d2 := pw_cell_below HB.out d2
      obtain ⟨cs3, hcs3⟩ := Kd.R_typed HR.out g rfl
      obtain ⟨c0, c1', c2', c3⟩ := kq_get HR.out i hlt
      generalize ys.getD i zQ = p at *
      simp only [encSL] at c1' c2'
      go_upto_region 5 with (first
        | (((with_reducible refine gate_dst (N := 5) rfl ?_); refine box_event ?hg (N := 5) ?hd (cs := #[.int .i64 0, .slice none 0 0, .slice none 0 0]) (t := 27) ?hr ?_; (case hd => rfl); (case hg => rfl); (case hr => first | (go_simp; done) | (go_simp; rfl)); intro g1 hg w1 hbox hb; have GE1 := Aside0.mk (Nat.le_of_eq hg.symm); have BK1 := Aside0.mk hbox; have HX1 := Aside0.mk hb; clear hg hbox hb); (have hg1_0 : w1.cell? ⟨g1, 0, none⟩ = some (.int .i64 0) := (blk_cell BK1.out 0).trans rfl; have hfg1_0 := blk_frozen BK1.out 0; have hg1_1 : w1.cell? ⟨g1, 1, none⟩ = some (.slice none 0 0) := (blk_cell BK1.out 1).trans rfl; have hfg1_1 := blk_frozen BK1.out 1; have hg1_2 : w1.cell? ⟨g1, 2, none⟩ = some (.slice none 0 0) := (blk_cell BK1.out 2).trans rfl; have hfg1_2 := blk_frozen BK1.out 2))
        | fail)
      have HXs := Aside0.mk (show Below wr.heap.size wr (((w1.setCell ⟨g1, 0, none⟩ (.int .i64 x.f0)).setCell ⟨g1, 1, none⟩ (.slice A1 x.f1.length c1)).setCell ⟨g1, 2, none⟩ (.slice A2 x.f2.length c2)) from below_set (below_set (below_set HX1.out GE1.out) GE1.out) GE1.out)
      have BKs := Aside0.mk (show (((w1.setCell ⟨g1, 0, none⟩ (.int .i64 x.f0)).setCell ⟨g1, 1, none⟩ (.slice A1 x.f1.length c1)).setCell ⟨g1, 2, none⟩ (.slice A2 x.f2.length c2)).heap[g1]? = some (.cells #[.int .i64 x.f0, .slice A1 x.f1.length c1, .slice A2 x.f2.length c2] 27 (0, 0)) from (blk_set (blk_set (blk_set BK1.out 0 _) 1 _) 2 _))
      clear hg1_0 hfg1_0 hg1_1 hfg1_1 hg1_2 hfg1_2 d0 d1 d2
      generalize (((w1.setCell ⟨g1, 0, none⟩ (.int .i64 x.f0)).setCell ⟨g1, 1, none⟩ (.slice A1 x.f1.length c1)).setCell ⟨g1, 2, none⟩ (.slice A2 x.f2.length c2)) = w2 at *
      (have hg1_0 : w2.cell? ⟨g1, 0, none⟩ = some (.int .i64 x.f0) := (blk_cell BKs.out 0).trans rfl; have hfg1_0 := blk_frozen BKs.out 0; have hg1_1 : w2.cell? ⟨g1, 1, none⟩ = some (.slice A1 x.f1.length c1) := (blk_cell BKs.out 1).trans rfl; have hfg1_1 := blk_frozen BKs.out 1; have hg1_2 : w2.cell? ⟨g1, 2, none⟩ = some (.slice A2 x.f2.length c2) := (blk_cell BKs.out 2).trans rfl; have hfg1_2 := blk_frozen BKs.out 2)
      have c0 := pw_cell_below HXs.out c0
      have c1' := pw_cell_below HXs.out c1'
      have c2' := pw_cell_below HXs.out c2'
      have c3 := pw_cell_below HXs.out c3
      have hfz : ∀ o, w2.frozen? ⟨g, o, none⟩ = false := fun o => blk_frozen (blk_below hcs3 HXs.out) o
      have HP := Aside0.mk (kq_put (Kd.R_below HR.out HXs.out) i hlt (x.f0, (A1, x.f1.length, c1), (A2, x.f2.length, c2), 1))
      have HBs := Aside0.mk (below_then HB.out HB.out.size HXs.out)
      rw [set4] at HP
      go_wp2_with fail
      go_roundw
      case rel =>
        exact .mk (i + 1) _ (by go_num) (by omega) HP.out.1 (below_set (below_set (below_set (below_set HBs.out HG.out) HG.out) HG.out) HG.out) (fun j hj => by
          have hyl : ys.length = n := (Kd.R_reads' HR.out).1.symm
          by_cases e : j = i
          · subst e
            rw [getD_set_eq _ _ _ (by omega), HX.out]
            exact ⟨HFl.out, rfl⟩
          · rw [getD_set_ne _ _ _ _ (fun h => e h.symm)]
            exact HKn.out j (by omega))
      case measure => simp [intOf]; omega
    · obtain rfl : i = n := by omega
      have hii : decide (i < i) = false := decide_eq_false (by omega)
      have HT := Aside0.mk (show Two (fun q x => Fl wr q x.1 ∧ q.2.2.2 = x.2) ys (l.map m27) from Two.of (by rw [List.length_map, HL.out]; exact (Kd.R_reads' HR.out).1) (fun j hj => by
        rw [List.length_map, HL.out] at hj
        obtain ⟨h1, h2⟩ := HKn.out j hj
        have e : (l.map m27).getD j zM = m27 (rd_T27 l j) := by
          have := HL.out
          unfold rd_T27
          rw [Int.toNat_natCast, List.getD_eq_getElem?_getD, List.getElem?_map, List.getElem?_eq_getElem (by omega), List.getD_eq_getElem?_getD, List.getElem?_eq_getElem (by omega)]
          rfl
        rw [e]
        exact ⟨h1.below HB.out, h2⟩))
      have HC2 := Aside0.mk (show kq.C wr (some ⟨g, 0, none⟩) i ys by have := (Kd.R_reads' HR.out).2.2; rwa [← (Kd.R_reads' HR.out).1] at this)
      clear hlt HKn
      go_wp2_with (first | (go_at_call 33; refine (bag_known K hK HSort.out i c6 (some ⟨g, 0, none⟩) ys (l.map m27) 34 #[] (fun _ => true) wr HC2.out hn HT.out ⟨_, Try.func34, rfl, rfl⟩ (fun w' _ q x hq => all_calls _ _ _ rfl rfl rfl w')).mono ?_; rintro e w7 ⟨v7, rfl, hr7, hb7⟩; have HR7 := Aside0.mk hr7; have HB7 := Aside0.mk (below_then HB.out HB.out.size hb7); clear hr7 hb7) | fail)
      go_ret
      refine ⟨v7, rfl, ?_, HB7.out⟩
      have h := HR7.out
      rw [List.filter_eq_self.2 (fun _ _ => rfl)] at h
      exact Kd.R_lower h HB.out.size
end Go.Proofs.Ytfeeahjaeapkoaa.Ext
end

section
namespace Go.Proofs.Ytfeeahjaeapkoaa.P
set_option linter.unusedVariables false
set_option linter.unusedSimpArgs false
open Go.RowKit Go.Proofs.YtfeeahjaeapkoaaW.PrintWords Go.Proofs.YtfeeahjaeapkoaaW.PrintLast Go.Proofs.YtfeeahjaeapkoaaW.PrintMore Go.Proofs.Ytfeeahjaeapkoaa.Lib Go.Proofs.Ytfeeahjaeapkoaa.Ext
def small27 (x : S27) : Bool := decide (x.f1.length ≤ 8796093022208) && decide (x.f2.length ≤ 17592186044416)
def fact_Bag.f (l0 : List (S27)) : Option (List (S40)) := if l0.length ≤ sortK ∧ l0.all small27 = true then some ((bagOf (l0.map m27)).map s40) else none
theorem fact_Bag.calls (A0 : Option Addr) (c0 : Nat) (l0 : List (S27)) (r : List (S40)) (w : World) (hr0 : Kd.C k27 w A0 l0.length l0) (hc0 : l0.length ≤ c0) (h : fact_Bag.f l0 = some r) :
    Calls Try.prog 16 #[.slice A0 l0.length c0] w fun e w' => ∃ v0_ : Value, e = .returned v0_ ∧ Kd.R k40 40 w' w.heap.size (fun _ => True) v0_ r ∧ Below w.heap.size w w' := by
  unfold fact_Bag.f at h
  split at h
  · rename_i hh
    injection h with h
    subst h
    exact Bag_calls sortK sortK_le sort_ok _ c0 A0 l0 w hr0 hh.1 (fun x hx => by
      have := List.all_eq_true.1 hh.2 x hx
      unfold small27 at this
      simp only [Bool.and_eq_true, decide_eq_true_eq] at this
      exact this)
  · cases h
end Go.Proofs.Ytfeeahjaeapkoaa.P
end

section
namespace Go.Proofs.Ytfeeahjaeapkoaa.P
open Go.RowKit Go.Proofs.YtfeeahjaeapkoaaW.PrintWords Go.Proofs.YtfeeahjaeapkoaaW.PrintLast Go.Proofs.YtfeeahjaeapkoaaW.PrintMore
attribute [local go_sem] max2_int min2_int max_two min_two max_three min_three max_four min_four   -- for this text's walks alone
set_option linter.unusedVariables false
set_option linter.unusedSimpArgs false
open Go.Proofs.Ytfeeahjaeapkoaa.Ext (q1_ q2_ q3_ bk_ bw_ sz_ ne_ bx_)
attribute [local go_sem high] Go.Proofs.Ytfeeahjaeapkoaa.Ext.gtr_str Go.Proofs.Ytfeeahjaeapkoaa.Ext.leq_str Go.Proofs.Ytfeeahjaeapkoaa.Ext.geq_str
def fact_Fine.f (a0_0 : Int) (a0_1 : Int) : Option (Int) := if a0_0 < 0 then (some 1) else (if a0_0 > 8 then (some 1) else (if a0_1 < 0 then (some 1) else (if a0_1 > 8 then (some 1) else (some 0))))
set_option maxHeartbeats 8000000 in
set_option maxRecDepth 100000 in
theorem fact_Fine.calls (a0_0 : Int) (a0_1 : Int) (r : Int) (w : World) (h : fact_Fine.f a0_0 a0_1 = some r) :
  Calls Try.prog 11 #[.agg #[.int .i64 a0_0, .int .i64 a0_1]] w fun e w' => e = .returned (.int .i64 r) ∧ Below w.heap.size w w' := by
 have hu23 := Try.underlying23
 have HB := Aside0.mk (Below.refl w.heap.size w)
 have H : (if a0_0 < 0 then (some 1) else (if a0_0 > 8 then (some 1) else (if a0_1 < 0 then (some 1) else (if a0_1 > 8 then (some 1) else (some 0))))) = some r := h
 clear h
 by_cases c2 : a0_0 < 0
 ·rw [if_pos c2] at H
  have c2b0 : decide (a0_0 < 0) = true := decide_eq_true c2
  clear c2
  obtain rfl := Option.some.inj H
  go_enter Try.func11, Try.ntmps11
  go_wp2_with (first | ((with_reducible refine gate_dst (N := 1) rfl ?_); refine bx_ (N := 1) (cs := #[.int .i64 a0_0, .int .i64 a0_1]) (t := 23) ?_; intro gb102 hg w3 hbox hb; have n0_ := Aside0.mk (below_step (bw_ HB.out) hb); have n1_ := Aside0.mk (hbox); have n2_ := Aside0.mk (sz_ hg (bw_ HB.out)); have n3_ := n2_; clear HB; have HB := n0_; have BK102 := n1_; have GW102 := n2_; have GE102 := n3_; clear n0_ n1_ n2_ n3_; clear hb hbox hg; have hcz4_0 : w3.cell? ⟨gb102, 0, none⟩ = some (.int .i64 a0_0) := (blk_cell BK102.out 0).trans rfl; have hcz4_1 : w3.cell? ⟨gb102, 1, none⟩ = some (.int .i64 a0_1) := (blk_cell BK102.out 1).trans rfl; have hfz4_0 := blk_frozen BK102.out 0; have hfz4_1 := blk_frozen BK102.out 1))
  go_ret
  exact ⟨by first | rfl | (simp [errW_none, errW_some] <;> rfl) | (simp [*, errW_none, errW_some] <;> rfl), by repeat (first | (with_reducible first | exact HB.out | apply below_alloc | apply pw_below_drewN | apply below_drew1 | refine below_set ?_ GE102.out) | exact HB.out)⟩
 ·rw [if_neg c2] at H
  have c2b0 : decide (a0_0 < 0) = false := decide_eq_false c2
  clear c2
  by_cases c5 : a0_0 > 8
  ·rw [if_pos c5] at H
   have c5b0 : decide (8 < a0_0) = true := decide_eq_true c5
   clear c5
   obtain rfl := Option.some.inj H
   go_enter Try.func11, Try.ntmps11
   go_wp2_with (first | ((with_reducible refine gate_dst (N := 1) rfl ?_); refine bx_ (N := 1) (cs := #[.int .i64 a0_0, .int .i64 a0_1]) (t := 23) ?_; intro gb102 hg w6 hbox hb; have n0_ := Aside0.mk (below_step (bw_ HB.out) hb); have n1_ := Aside0.mk (hbox); have n2_ := Aside0.mk (sz_ hg (bw_ HB.out)); have n3_ := n2_; clear HB; have HB := n0_; have BK102 := n1_; have GW102 := n2_; have GE102 := n3_; clear n0_ n1_ n2_ n3_; clear hb hbox hg; have hcz7_0 : w6.cell? ⟨gb102, 0, none⟩ = some (.int .i64 a0_0) := (blk_cell BK102.out 0).trans rfl; have hcz7_1 : w6.cell? ⟨gb102, 1, none⟩ = some (.int .i64 a0_1) := (blk_cell BK102.out 1).trans rfl; have hfz7_0 := blk_frozen BK102.out 0; have hfz7_1 := blk_frozen BK102.out 1))
   go_ret
   exact ⟨by first | rfl | (simp [errW_none, errW_some] <;> rfl) | (simp [*, errW_none, errW_some] <;> rfl), by repeat (first | (with_reducible first | exact HB.out | apply below_alloc | apply pw_below_drewN | apply below_drew1 | refine below_set ?_ GE102.out) | exact HB.out)⟩
  ·rw [if_neg c5] at H
   have c5b0 : decide (8 < a0_0) = false := decide_eq_false c5
   clear c5
   by_cases c8 : a0_1 < 0
   ·rw [if_pos c8] at H
    have c8b0 : decide (a0_1 < 0) = true := decide_eq_true c8
    clear c8
    obtain rfl := Option.some.inj H
    go_enter Try.func11, Try.ntmps11
    go_wp2_with (first | ((with_reducible refine gate_dst (N := 1) rfl ?_); refine bx_ (N := 1) (cs := #[.int .i64 a0_0, .int .i64 a0_1]) (t := 23) ?_; intro gb102 hg w9 hbox hb; have n0_ := Aside0.mk (below_step (bw_ HB.out) hb); have n1_ := Aside0.mk (hbox); have n2_ := Aside0.mk (sz_ hg (bw_ HB.out)); have n3_ := n2_; clear HB; have HB := n0_; have BK102 := n1_; have GW102 := n2_; have GE102 := n3_; clear n0_ n1_ n2_ n3_; clear hb hbox hg; have hcz10_0 : w9.cell? ⟨gb102, 0, none⟩ = some (.int .i64 a0_0) := (blk_cell BK102.out 0).trans rfl; have hcz10_1 : w9.cell? ⟨gb102, 1, none⟩ = some (.int .i64 a0_1) := (blk_cell BK102.out 1).trans rfl; have hfz10_0 := blk_frozen BK102.out 0; have hfz10_1 := blk_frozen BK102.out 1))
    go_ret
    exact ⟨by first | rfl | (simp [errW_none, errW_some] <;> rfl) | (simp [*, errW_none, errW_some] <;> rfl), by repeat (first | (with_reducible first | exact HB.out | apply below_alloc | apply pw_below_drewN | apply below_drew1 | refine below_set ?_ GE102.out) | exact HB.out)⟩
   ·rw [if_neg c8] at H
    have c8b0 : decide (a0_1 < 0) = false := decide_eq_false c8
    clear c8
    by_cases c11 : a0_1 > 8
    ·rw [if_pos c11] at H
     have c11b0 : decide (8 < a0_1) = true := decide_eq_true c11
     clear c11
     obtain rfl := Option.some.inj H
     go_enter Try.func11, Try.ntmps11
     go_wp2_with (first | ((with_reducible refine gate_dst (N := 1) rfl ?_); refine bx_ (N := 1) (cs := #[.int .i64 a0_0, .int .i64 a0_1]) (t := 23) ?_; intro gb102 hg w12 hbox hb; have n0_ := Aside0.mk (below_step (bw_ HB.out) hb); have n1_ := Aside0.mk (hbox); have n2_ := Aside0.mk (sz_ hg (bw_ HB.out)); have n3_ := n2_; clear HB; have HB := n0_; have BK102 := n1_; have GW102 := n2_; have GE102 := n3_; clear n0_ n1_ n2_ n3_; clear hb hbox hg; have hcz13_0 : w12.cell? ⟨gb102, 0, none⟩ = some (.int .i64 a0_0) := (blk_cell BK102.out 0).trans rfl; have hcz13_1 : w12.cell? ⟨gb102, 1, none⟩ = some (.int .i64 a0_1) := (blk_cell BK102.out 1).trans rfl; have hfz13_0 := blk_frozen BK102.out 0; have hfz13_1 := blk_frozen BK102.out 1))
     go_ret
     exact ⟨by first | rfl | (simp [errW_none, errW_some] <;> rfl) | (simp [*, errW_none, errW_some] <;> rfl), by repeat (first | (with_reducible first | exact HB.out | apply below_alloc | apply pw_below_drewN | apply below_drew1 | refine below_set ?_ GE102.out) | exact HB.out)⟩
    ·rw [if_neg c11] at H
     have c11b0 : decide (8 < a0_1) = false := decide_eq_false c11
     clear c11
     obtain rfl := Option.some.inj H
     go_enter Try.func11, Try.ntmps11
     go_wp2_with (first | ((with_reducible refine gate_dst (N := 1) rfl ?_); refine bx_ (N := 1) (cs := #[.int .i64 a0_0, .int .i64 a0_1]) (t := 23) ?_; intro gb102 hg w14 hbox hb; have n0_ := Aside0.mk (below_step (bw_ HB.out) hb); have n1_ := Aside0.mk (hbox); have n2_ := Aside0.mk (sz_ hg (bw_ HB.out)); have n3_ := n2_; clear HB; have HB := n0_; have BK102 := n1_; have GW102 := n2_; have GE102 := n3_; clear n0_ n1_ n2_ n3_; clear hb hbox hg; have hcz15_0 : w14.cell? ⟨gb102, 0, none⟩ = some (.int .i64 a0_0) := (blk_cell BK102.out 0).trans rfl; have hcz15_1 : w14.cell? ⟨gb102, 1, none⟩ = some (.int .i64 a0_1) := (blk_cell BK102.out 1).trans rfl; have hfz15_0 := blk_frozen BK102.out 0; have hfz15_1 := blk_frozen BK102.out 1))
     go_ret
     exact ⟨by first | rfl | (simp [errW_none, errW_some] <;> rfl) | (simp [*, errW_none, errW_some] <;> rfl), by repeat (first | (with_reducible first | exact HB.out | apply below_alloc | apply pw_below_drewN | apply below_drew1 | refine below_set ?_ GE102.out) | exact HB.out)⟩
end Go.Proofs.Ytfeeahjaeapkoaa.P
end

section
namespace Go.Proofs.Ytfeeahjaeapkoaa.P
set_option linter.unusedVariables false
set_option linter.unusedSimpArgs false
open Go.RowKit Go.Proofs.YtfeeahjaeapkoaaW.PrintWords Go.Proofs.YtfeeahjaeapkoaaW.PrintLast Go.Proofs.YtfeeahjaeapkoaaW.PrintMore Go.Proofs.Ytfeeahjaeapkoaa.Lib
set_option maxRecDepth 100000 in
set_option maxHeartbeats 400000 in
theorem long_word (s : ByteArray) (w : World) :
    Calls Try.prog 27 #[.string s] w fun e w' => e = .returned (.bool (decide (64 < s.size))) ∧ w = w' := by
  by_cases h : 64 < s.size
  · have h2 : decide (64 < s.size) = true := decide_eq_true h
    rw [h2]
    have h3 : decide ((64 : Int) < (s.size : Int)) = true := decide_eq_true (by omega)
    clear h h2
    go_enter Try.func27, Try.ntmps27
    go_wp2_with fail
    go_ret
    exact ⟨rfl, rfl⟩
  · have h2 : decide (64 < s.size) = false := decide_eq_false h
    rw [h2]
    have h3 : decide ((64 : Int) < (s.size : Int)) = false := decide_eq_false (by omega)
    clear h h2
    go_enter Try.func27, Try.ntmps27
    go_wp2_with fail
    go_ret
    exact ⟨rfl, rfl⟩
def tooLong (ts : List ByteArray) : Bool := ts.any fun t => decide (64 < t.size)
set_option maxRecDepth 100000 in
set_option maxHeartbeats 400000 in
theorem index_long (ts : List ByteArray) (A : Option Addr) (n c : Nat) (w : World) (hC : Kd.C Kd.string w A n ts) :
    Calls Try.prog 41 #[.slice A n c, .func (.func 27) #[] #[]] w fun e w' => (∃ k : Int, e = .returned (.int .i64 k) ∧ decide (0 ≤ k) = tooLong ts) ∧ w = w' := by
  have HC := Aside0.mk hC
  have HLen := Aside0.mk (show ts.length = n from hC.1)
  have hn := hC.2.1
  clear hC
  go_enter Try.func41, Try.ntmps41
  go_wp2_with fail
  go_loop [8] (fun kv => ∃ k : Nat, k ≤ n ∧ kv = .int .i64 k ∧ Aside0 (tooLong (ts.take k) = false)) (fun kv => n - (intOf kv).toNat)
  case atStart => exact ⟨0, Nat.zero_le _, rfl, ⟨by simp [tooLong]⟩⟩
  case round =>
    obtain ⟨k, hk, rfl, HT⟩ := hrel
    by_cases hlt : k < n
    · obtain ⟨ad, e, hcell⟩ := Kd.at_string HC.out (k : Int) (by omega) (by omega)
      subst e
      rw [Int.toNat_natCast] at hcell
      have HL := Aside0.mk (show tooLong (ts.take (k + 1)) = decide (64 < (rdOf ByteArray.empty ts (k : Int)).size) by
        rw [List.take_succ_eq_append_getElem (by rw [HLen.out]; exact hlt)]
        have h := HT.out
        unfold tooLong at h ⊢
        rw [List.any_append, h]
        unfold rdOf
        rw [Int.toNat_natCast, List.getD_eq_getElem?_getD, List.getElem?_eq_getElem (by rw [HLen.out]; exact hlt)]
        simp)
      have HA := Aside0.mk (show tooLong (ts.take (k + 1)) = true → tooLong ts = true by
        unfold tooLong
        intro h
        rw [List.any_eq_true] at h ⊢
        obtain ⟨x, hx, h⟩ := h
        exact ⟨x, List.mem_of_mem_take hx, h⟩)
      generalize rdOf ByteArray.empty ts (k : Int) = s at *
      go_wp2_with fail
      refine (long_word s w).mono ?_
      rintro e w1 ⟨rfl, rfl⟩
      rw [← HL.out]
      obtain ⟨b, hb⟩ : ∃ b, tooLong (ts.take (k + 1)) = b := ⟨_, rfl⟩
      rw [hb] at HL HA ⊢
      have HT2 := Aside0.mk hb
      clear hb HT
      cases b
      · go_wp2_with fail
        go_round
        case rel => exact ⟨k + 1, by omega, by go_num, HT2⟩
        case measure => simp [intOf]; omega
      · go_wp2_with fail
        go_ret
        exact ⟨⟨(k : Int), rfl, by rw [HA.out (by trivial)]; exact decide_eq_true (by omega)⟩, rfl⟩
    · obtain rfl : k = n := by omega
      have HE := Aside0.mk (show tooLong ts = false by have h := HT.out; rw [← HLen.out, List.take_length] at h; exact h)
      go_wp2_with fail
      go_ret
      exact ⟨⟨-1, rfl, by rw [HE.out]; rfl⟩, rfl⟩
def slices_ContainsFunc_string_string_at_fact_Check_1.f (l0 : List ByteArray) : Option Bool := some (tooLong l0)
set_option maxRecDepth 100000 in
set_option maxHeartbeats 400000 in
theorem slices_ContainsFunc_string_string_at_fact_Check_1.calls (A0 : Option Addr) (c0 : Nat) (l0 : List ByteArray) (r : Bool) (w : World) (hr0 : Kd.C Kd.string w A0 l0.length l0) (hc0 : l0.length ≤ c0) (h : slices_ContainsFunc_string_string_at_fact_Check_1.f l0 = some r) :
    Calls Try.prog 28 #[.slice A0 l0.length c0, .func (.func 27) #[] #[]] w fun e w' => e = .returned (.bool r) ∧ Drawn0 w w' := by
  unfold slices_ContainsFunc_string_string_at_fact_Check_1.f at h
  injection h with h
  have HH := Aside0.mk h
  have H := Aside0.mk (index_long l0 A0 l0.length c0 w hr0)
  clear hr0 h hc0
  go_enter Try.func28, Try.ntmps28
  go_wp2_with fail
  refine H.out.mono ?_
  rintro e w1 ⟨⟨k, rfl, hk⟩, rfl⟩
  have HK := Aside0.mk hk
  clear hk
  go_wp2_with fail
  go_ret
  exact ⟨by rw [← HH.out, ← HK.out]; rfl, Drawn0.refl _⟩
end Go.Proofs.Ytfeeahjaeapkoaa.P
end

section
namespace Go.Proofs.Ytfeeahjaeapkoaa.P
open Go.RowKit Go.Proofs.YtfeeahjaeapkoaaW.PrintWords Go.Proofs.YtfeeahjaeapkoaaW.PrintLast Go.Proofs.YtfeeahjaeapkoaaW.PrintMore
attribute [local go_sem] max2_int min2_int max_two min_two max_three min_three max_four min_four   -- for this text's walks alone
set_option linter.unusedVariables false
set_option linter.unusedSimpArgs false
open Go.Proofs.Ytfeeahjaeapkoaa.Ext (q1_ q2_ q3_ bk_ bw_ sz_ ne_ bx_)
attribute [local go_sem high] Go.Proofs.Ytfeeahjaeapkoaa.Ext.gtr_str Go.Proofs.Ytfeeahjaeapkoaa.Ext.leq_str Go.Proofs.Ytfeeahjaeapkoaa.Ext.geq_str
def fact_Check.f (a0_0 : Int) (a0_1 : Int) (a1_0 : Int) (l1_1 : List ByteArray) (l1_2 : List Int) : Option (Int) := (fact_Fine.f a0_0 a0_1).bind fun t105 => (if t105 = 0 then (if a1_0 < 0 then (some 40) else (if a1_0 ≥ 1099511627776 then (some 40) else (if (l1_1.length : Int) = a0_0 then (if (l1_2.length : Int) = a0_1 then ((slices_ContainsFunc_string_string_at_fact_Check_1.f l1_1).bind fun t106 => (if t106 = true then (some 40) else (some 0))) else (some 40)) else (some 40)))) else (some t105))
set_option maxHeartbeats 8000000 in
set_option maxRecDepth 100000 in
theorem fact_Check.calls (a0_0 : Int) (a0_1 : Int) (a1_0 : Int) (A1_1 : Option Addr) (c1_1 : Nat) (l1_1 : List ByteArray) (A1_2 : Option Addr) (c1_2 : Nat) (l1_2 : List Int) (r : Int) (w : World) (hr1_1 : Kd.C Kd.string w A1_1 l1_1.length l1_1) (hc1_1 : l1_1.length ≤ c1_1) (hr1_2 : Kd.C (Kd.int .i64) w A1_2 l1_2.length l1_2) (hc1_2 : l1_2.length ≤ c1_2) (h : fact_Check.f a0_0 a0_1 a1_0 l1_1 l1_2 = some r) :
  Calls Try.prog 12 #[.agg #[.int .i64 a0_0, .int .i64 a0_1], .agg #[.int .i64 a1_0, .slice A1_1 l1_1.length c1_1, .slice A1_2 l1_2.length c1_2]] w fun e w' => e = .returned (.int .i64 r) ∧ Below w.heap.size w w' := by
 have hu23 := Try.underlying23
 have hu27 := Try.underlying27
 have HR1_1 := Aside0.mk hr1_1
 have HC1_1 := Aside0.mk hc1_1
 clear hr1_1 hc1_1
 have HR1_2 := Aside0.mk hr1_2
 have HC1_2 := Aside0.mk hc1_2
 clear hr1_2 hc1_2
 have HB := Aside0.mk (Below.refl w.heap.size w)
 have H : ((fact_Fine.f a0_0 a0_1).bind fun t105 => (if t105 = 0 then (if a1_0 < 0 then (some 40) else (if a1_0 ≥ 1099511627776 then (some 40) else (if (l1_1.length : Int) = a0_0 then (if (l1_2.length : Int) = a0_1 then ((slices_ContainsFunc_string_string_at_fact_Check_1.f l1_1).bind fun t106 => (if t106 = true then (some 40) else (some 0))) else (some 40)) else (some 40)))) else (some t105))) = some r := h
 clear h
 replace H := Option.bind_eq_some_iff.mp H
 obtain ⟨t105, A30, H⟩ := H
 replace H : (if t105 = 0 then (if a1_0 < 0 then (some 40) else (if a1_0 ≥ 1099511627776 then (some 40) else (if (l1_1.length : Int) = a0_0 then (if (l1_2.length : Int) = a0_1 then ((slices_ContainsFunc_string_string_at_fact_Check_1.f l1_1).bind fun t106 => (if t106 = true then (some 40) else (some 0))) else (some 40)) else (some 40)))) else (some t105)) = some r := H
 have A3 := Aside0.mk A30
 clear A30
 by_cases c4 : t105 = 0
 ·rw [if_pos c4] at H
  have c4b0 : (t105 == 0) = true := beq_iff_eq.mpr c4
  have c4b1 : (t105 != 0) = false := bne_eq_false_iff_eq.mpr c4
  clear c4
  by_cases c5 : a1_0 < 0
  ·rw [if_pos c5] at H
   have c5b0 : decide (a1_0 < 0) = true := decide_eq_true c5
   clear c5
   obtain rfl := Option.some.inj H
   go_enter Try.func12, Try.ntmps12
   go_wp2_with (first | ((with_reducible refine gate_dst (N := 2) rfl ?_); (try (refine gate_guard (by rfl) ?_; dsimp only)); refine bx_ (N := 2) (cs := #[.int .i64 a0_0, .int .i64 a0_1]) (t := 23) ?_; intro gb103 hg w6 hbox hb; have n0_ := Aside0.mk (below_step (bw_ HB.out) hb); have n1_ := Aside0.mk (hbox); have n2_ := Aside0.mk (sz_ hg (bw_ HB.out)); have n3_ := n2_; clear HB; have HB := n0_; have BK103 := n1_; have GW103 := n2_; have GE103 := n3_; clear n0_ n1_ n2_ n3_; clear hb hbox hg) | ((with_reducible refine gate_dst (N := 3) rfl ?_); (try (refine gate_guard (by rfl) ?_; dsimp only)); refine bx_ (N := 3) (cs := #[.int .i64 a1_0, .slice A1_1 l1_1.length c1_1, .slice A1_2 l1_2.length c1_2]) (t := 27) ?_; intro gb104 hg w7 hbox hb; have n0_ := Aside0.mk (blk_below (bk_ BK103.out) hb); have n1_ := Aside0.mk (below_step (bw_ HB.out) hb); have n2_ := Aside0.mk (hbox); have n3_ := Aside0.mk (sz_ hg (bw_ HB.out)); have n4_ := n3_; have n5_ := Aside0.mk (ne_ hg (blk_lt (bk_ BK103.out))); have n6_ := Aside0.mk n5_.out.symm; clear BK103 HB; have BK103 := n0_; have HB := n1_; have BK104 := n2_; have GW104 := n3_; have GE104 := n4_; have NB103_104 := n5_; have NB104_103 := n6_; clear n0_ n1_ n2_ n3_ n4_ n5_ n6_; clear hb hbox hg; have hnb8 := NB103_104.out; have hnc8 := NB104_103.out; have hcz9_0 : w7.cell? ⟨gb103, 0, none⟩ = some (.int .i64 a0_0) := (blk_cell BK103.out 0).trans rfl; have hcz9_1 : w7.cell? ⟨gb103, 1, none⟩ = some (.int .i64 a0_1) := (blk_cell BK103.out 1).trans rfl; have hfz9_0 := blk_frozen BK103.out 0; have hfz9_1 := blk_frozen BK103.out 1) | ((with_reducible refine gate_callee (f := 11) rfl ?_); refine goesL_ (some 8) rfl rfl Try.func11 (by kernel_rfl) rfl #[.agg #[.int .i64 a0_0, .int .i64 a0_1]] rfl (by (try simp only [List.map_toArray, List.map_cons, List.map_nil]); first | done | rfl | (simp only [List.length_drop, List.length_take]; rfl)) ?_; (with_reducible refine (fact_Fine.calls a0_0 a0_1 t105 _ A3.out).mono ?_); rintro e w10 ⟨rfl, hb⟩; refine ⟨_, rfl, ?_⟩; have n0_ := Aside0.mk (blk_below (bk_ BK103.out) hb); have n1_ := Aside0.mk (blk_below (bk_ BK104.out) hb); have n2_ := Aside0.mk (below_step (bw_ HB.out) hb); clear BK103 BK104 HB; have BK103 := n0_; have BK104 := n1_; have HB := n2_; clear n0_ n1_ n2_; (try clear hb); (try clear hb2); (try clear hk); (try clear hi); have hcz11_0 : w10.cell? ⟨gb104, 0, none⟩ = some (.int .i64 a1_0) := (blk_cell BK104.out 0).trans rfl; have hcz11_1 : w10.cell? ⟨gb104, 1, none⟩ = some (.slice A1_1 l1_1.length c1_1) := (blk_cell BK104.out 1).trans rfl; have hcz11_2 : w10.cell? ⟨gb104, 2, none⟩ = some (.slice A1_2 l1_2.length c1_2) := (blk_cell BK104.out 2).trans rfl; have hfz11_0 := blk_frozen BK104.out 0; have hfz11_1 := blk_frozen BK104.out 1; have hfz11_2 := blk_frozen BK104.out 2))
   go_ret
   exact ⟨by first | rfl | (simp [errW_none, errW_some] <;> rfl) | (simp [*, errW_none, errW_some] <;> rfl), by repeat (first | (with_reducible first | exact HB.out | apply below_alloc | apply pw_below_drewN | apply below_drew1 | refine below_set ?_ GE103.out | refine below_set ?_ GE104.out) | exact HB.out)⟩
  ·rw [if_neg c5] at H
   have c5b0 : decide (a1_0 < 0) = false := decide_eq_false c5
   clear c5
   by_cases c12 : a1_0 ≥ 1099511627776
   ·rw [if_pos c12] at H
    have c12b0 : decide (1099511627776 ≤ a1_0) = true := decide_eq_true c12
    clear c12
    obtain rfl := Option.some.inj H
    go_enter Try.func12, Try.ntmps12
    go_wp2_with (first | ((with_reducible refine gate_dst (N := 2) rfl ?_); (try (refine gate_guard (by rfl) ?_; dsimp only)); refine bx_ (N := 2) (cs := #[.int .i64 a0_0, .int .i64 a0_1]) (t := 23) ?_; intro gb103 hg w13 hbox hb; have n0_ := Aside0.mk (below_step (bw_ HB.out) hb); have n1_ := Aside0.mk (hbox); have n2_ := Aside0.mk (sz_ hg (bw_ HB.out)); have n3_ := n2_; clear HB; have HB := n0_; have BK103 := n1_; have GW103 := n2_; have GE103 := n3_; clear n0_ n1_ n2_ n3_; clear hb hbox hg) | ((with_reducible refine gate_dst (N := 3) rfl ?_); (try (refine gate_guard (by rfl) ?_; dsimp only)); refine bx_ (N := 3) (cs := #[.int .i64 a1_0, .slice A1_1 l1_1.length c1_1, .slice A1_2 l1_2.length c1_2]) (t := 27) ?_; intro gb104 hg w14 hbox hb; have n0_ := Aside0.mk (blk_below (bk_ BK103.out) hb); have n1_ := Aside0.mk (below_step (bw_ HB.out) hb); have n2_ := Aside0.mk (hbox); have n3_ := Aside0.mk (sz_ hg (bw_ HB.out)); have n4_ := n3_; have n5_ := Aside0.mk (ne_ hg (blk_lt (bk_ BK103.out))); have n6_ := Aside0.mk n5_.out.symm; clear BK103 HB; have BK103 := n0_; have HB := n1_; have BK104 := n2_; have GW104 := n3_; have GE104 := n4_; have NB103_104 := n5_; have NB104_103 := n6_; clear n0_ n1_ n2_ n3_ n4_ n5_ n6_; clear hb hbox hg; have hnb15 := NB103_104.out; have hnc15 := NB104_103.out; have hcz16_0 : w14.cell? ⟨gb103, 0, none⟩ = some (.int .i64 a0_0) := (blk_cell BK103.out 0).trans rfl; have hcz16_1 : w14.cell? ⟨gb103, 1, none⟩ = some (.int .i64 a0_1) := (blk_cell BK103.out 1).trans rfl; have hfz16_0 := blk_frozen BK103.out 0; have hfz16_1 := blk_frozen BK103.out 1) | ((with_reducible refine gate_callee (f := 11) rfl ?_); refine goesL_ (some 8) rfl rfl Try.func11 (by kernel_rfl) rfl #[.agg #[.int .i64 a0_0, .int .i64 a0_1]] rfl (by (try simp only [List.map_toArray, List.map_cons, List.map_nil]); first | done | rfl | (simp only [List.length_drop, List.length_take]; rfl)) ?_; (with_reducible refine (fact_Fine.calls a0_0 a0_1 t105 _ A3.out).mono ?_); rintro e w17 ⟨rfl, hb⟩; refine ⟨_, rfl, ?_⟩; have n0_ := Aside0.mk (blk_below (bk_ BK103.out) hb); have n1_ := Aside0.mk (blk_below (bk_ BK104.out) hb); have n2_ := Aside0.mk (below_step (bw_ HB.out) hb); clear BK103 BK104 HB; have BK103 := n0_; have BK104 := n1_; have HB := n2_; clear n0_ n1_ n2_; (try clear hb); (try clear hb2); (try clear hk); (try clear hi); have hcz18_0 : w17.cell? ⟨gb104, 0, none⟩ = some (.int .i64 a1_0) := (blk_cell BK104.out 0).trans rfl; have hcz18_1 : w17.cell? ⟨gb104, 1, none⟩ = some (.slice A1_1 l1_1.length c1_1) := (blk_cell BK104.out 1).trans rfl; have hcz18_2 : w17.cell? ⟨gb104, 2, none⟩ = some (.slice A1_2 l1_2.length c1_2) := (blk_cell BK104.out 2).trans rfl; have hfz18_0 := blk_frozen BK104.out 0; have hfz18_1 := blk_frozen BK104.out 1; have hfz18_2 := blk_frozen BK104.out 2))
    go_ret
    exact ⟨by first | rfl | (simp [errW_none, errW_some] <;> rfl) | (simp [*, errW_none, errW_some] <;> rfl), by repeat (first | (with_reducible first | exact HB.out | apply below_alloc | apply pw_below_drewN | apply below_drew1 | refine below_set ?_ GE103.out | refine below_set ?_ GE104.out) | exact HB.out)⟩
   ·rw [if_neg c12] at H
    have c12b0 : decide (1099511627776 ≤ a1_0) = false := decide_eq_false c12
    clear c12
    by_cases c19 : (l1_1.length : Int) = a0_0
    ·rw [if_pos c19] at H
     have c19b0 : ((l1_1.length : Int) == a0_0) = true := beq_iff_eq.mpr c19
     have c19b1 : ((l1_1.length : Int) != a0_0) = false := bne_eq_false_iff_eq.mpr c19
     clear c19
     by_cases c20 : (l1_2.length : Int) = a0_1
     ·rw [if_pos c20] at H
      have c20b0 : ((l1_2.length : Int) == a0_1) = true := beq_iff_eq.mpr c20
      have c20b1 : ((l1_2.length : Int) != a0_1) = false := bne_eq_false_iff_eq.mpr c20
      clear c20
      replace H := Option.bind_eq_some_iff.mp H
      obtain ⟨t106, A210, H⟩ := H
      replace H : (if t106 = true then (some 40) else (some 0)) = some r := H
      have A21 := Aside0.mk A210
      clear A210
      by_cases c22 : t106 = true
      ·subst c22
       have H1 : (some 40) = some r := by rw [if_pos rfl] at H; exact H
       clear H
       have H := H1
       clear H1
       obtain rfl := Option.some.inj H
       go_enter Try.func12, Try.ntmps12
       go_wp2_with (first | ((with_reducible refine gate_dst (N := 2) rfl ?_); (try (refine gate_guard (by rfl) ?_; dsimp only)); refine bx_ (N := 2) (cs := #[.int .i64 a0_0, .int .i64 a0_1]) (t := 23) ?_; intro gb103 hg w23 hbox hb; have n0_ := Aside0.mk (below_step (bw_ HB.out) hb); have n1_ := Aside0.mk (hbox); have n2_ := Aside0.mk (sz_ hg (bw_ HB.out)); have n3_ := n2_; clear HB; have HB := n0_; have BK103 := n1_; have GW103 := n2_; have GE103 := n3_; clear n0_ n1_ n2_ n3_; clear hb hbox hg) | ((with_reducible refine gate_dst (N := 3) rfl ?_); (try (refine gate_guard (by rfl) ?_; dsimp only)); refine bx_ (N := 3) (cs := #[.int .i64 a1_0, .slice A1_1 l1_1.length c1_1, .slice A1_2 l1_2.length c1_2]) (t := 27) ?_; intro gb104 hg w24 hbox hb; have n0_ := Aside0.mk (blk_below (bk_ BK103.out) hb); have n1_ := Aside0.mk (below_step (bw_ HB.out) hb); have n2_ := Aside0.mk (hbox); have n3_ := Aside0.mk (sz_ hg (bw_ HB.out)); have n4_ := n3_; have n5_ := Aside0.mk (ne_ hg (blk_lt (bk_ BK103.out))); have n6_ := Aside0.mk n5_.out.symm; clear BK103 HB; have BK103 := n0_; have HB := n1_; have BK104 := n2_; have GW104 := n3_; have GE104 := n4_; have NB103_104 := n5_; have NB104_103 := n6_; clear n0_ n1_ n2_ n3_ n4_ n5_ n6_; clear hb hbox hg; have hnb25 := NB103_104.out; have hnc25 := NB104_103.out; have hcz26_0 : w24.cell? ⟨gb103, 0, none⟩ = some (.int .i64 a0_0) := (blk_cell BK103.out 0).trans rfl; have hcz26_1 : w24.cell? ⟨gb103, 1, none⟩ = some (.int .i64 a0_1) := (blk_cell BK103.out 1).trans rfl; have hfz26_0 := blk_frozen BK103.out 0; have hfz26_1 := blk_frozen BK103.out 1) | ((with_reducible refine gate_callee (f := 11) rfl ?_); refine goesL_ (some 8) rfl rfl Try.func11 (by kernel_rfl) rfl #[.agg #[.int .i64 a0_0, .int .i64 a0_1]] rfl (by (try simp only [List.map_toArray, List.map_cons, List.map_nil]); first | done | rfl | (simp only [List.length_drop, List.length_take]; rfl)) ?_; (with_reducible refine (fact_Fine.calls a0_0 a0_1 t105 _ A3.out).mono ?_); rintro e w27 ⟨rfl, hb⟩; refine ⟨_, rfl, ?_⟩; have n0_ := Aside0.mk (blk_below (bk_ BK103.out) hb); have n1_ := Aside0.mk (blk_below (bk_ BK104.out) hb); have n2_ := Aside0.mk (below_step (bw_ HB.out) hb); clear BK103 BK104 HB; have BK103 := n0_; have BK104 := n1_; have HB := n2_; clear n0_ n1_ n2_; (try clear hb); (try clear hb2); (try clear hk); (try clear hi); have hcz28_0 : w27.cell? ⟨gb104, 0, none⟩ = some (.int .i64 a1_0) := (blk_cell BK104.out 0).trans rfl; have hcz28_1 : w27.cell? ⟨gb104, 1, none⟩ = some (.slice A1_1 l1_1.length c1_1) := (blk_cell BK104.out 1).trans rfl; have hcz28_2 : w27.cell? ⟨gb104, 2, none⟩ = some (.slice A1_2 l1_2.length c1_2) := (blk_cell BK104.out 2).trans rfl; have hfz28_0 := blk_frozen BK104.out 0; have hfz28_1 := blk_frozen BK104.out 1; have hfz28_2 := blk_frozen BK104.out 2; have hcz29_0 : w27.cell? ⟨gb103, 0, none⟩ = some (.int .i64 a0_0) := (blk_cell BK103.out 0).trans rfl; have hcz29_1 : w27.cell? ⟨gb103, 1, none⟩ = some (.int .i64 a0_1) := (blk_cell BK103.out 1).trans rfl; have hfz29_0 := blk_frozen BK103.out 0; have hfz29_1 := blk_frozen BK103.out 1) | (go_at_call 28; (with_reducible refine (slices_ContainsFunc_string_string_at_fact_Check_1.calls _ _ l1_1 true _ ?side1 ?side2 A21.out).mono ?_); (case side1 => repeat (first | exact (Kd.C_below HR1_1.out HB.out) | (with_reducible refine Kd.C_alloc ?_ _) | (with_reducible refine Kd.C_drewN ?_ _) | (with_reducible refine Kd.C_drew ?_))); (case side2 => exact HC1_1.out); rintro e w' ⟨rfl, ⟨nd, rfl⟩⟩))
       go_ret
       exact ⟨by first | rfl | (simp [errW_none, errW_some] <;> rfl) | (simp [*, errW_none, errW_some] <;> rfl), by repeat (first | (with_reducible first | exact HB.out | apply below_alloc | apply pw_below_drewN | apply below_drew1 | refine below_set ?_ GE103.out | refine below_set ?_ GE104.out) | exact HB.out)⟩
      ·replace c22 := Bool.eq_false_iff.mpr c22
       subst c22
       have H1 : (some 0) = some r := by rw [if_neg (show ¬ (false = true) by decide)] at H; exact H
       clear H
       have H := H1
       clear H1
       obtain rfl := Option.some.inj H
       go_enter Try.func12, Try.ntmps12
       go_wp2_with (first | ((with_reducible refine gate_dst (N := 2) rfl ?_); (try (refine gate_guard (by rfl) ?_; dsimp only)); refine bx_ (N := 2) (cs := #[.int .i64 a0_0, .int .i64 a0_1]) (t := 23) ?_; intro gb103 hg w30 hbox hb; have n0_ := Aside0.mk (below_step (bw_ HB.out) hb); have n1_ := Aside0.mk (hbox); have n2_ := Aside0.mk (sz_ hg (bw_ HB.out)); have n3_ := n2_; clear HB; have HB := n0_; have BK103 := n1_; have GW103 := n2_; have GE103 := n3_; clear n0_ n1_ n2_ n3_; clear hb hbox hg) | ((with_reducible refine gate_dst (N := 3) rfl ?_); (try (refine gate_guard (by rfl) ?_; dsimp only)); refine bx_ (N := 3) (cs := #[.int .i64 a1_0, .slice A1_1 l1_1.length c1_1, .slice A1_2 l1_2.length c1_2]) (t := 27) ?_; intro gb104 hg w31 hbox hb; have n0_ := Aside0.mk (blk_below (bk_ BK103.out) hb); have n1_ := Aside0.mk (below_step (bw_ HB.out) hb); have n2_ := Aside0.mk (hbox); have n3_ := Aside0.mk (sz_ hg (bw_ HB.out)); have n4_ := n3_; have n5_ := Aside0.mk (ne_ hg (blk_lt (bk_ BK103.out))); have n6_ := Aside0.mk n5_.out.symm; clear BK103 HB; have BK103 := n0_; have HB := n1_; have BK104 := n2_; have GW104 := n3_; have GE104 := n4_; have NB103_104 := n5_; have NB104_103 := n6_; clear n0_ n1_ n2_ n3_ n4_ n5_ n6_; clear hb hbox hg; have hnb32 := NB103_104.out; have hnc32 := NB104_103.out; have hcz33_0 : w31.cell? ⟨gb103, 0, none⟩ = some (.int .i64 a0_0) := (blk_cell BK103.out 0).trans rfl; have hcz33_1 : w31.cell? ⟨gb103, 1, none⟩ = some (.int .i64 a0_1) := (blk_cell BK103.out 1).trans rfl; have hfz33_0 := blk_frozen BK103.out 0; have hfz33_1 := blk_frozen BK103.out 1) | ((with_reducible refine gate_callee (f := 11) rfl ?_); refine goesL_ (some 8) rfl rfl Try.func11 (by kernel_rfl) rfl #[.agg #[.int .i64 a0_0, .int .i64 a0_1]] rfl (by (try simp only [List.map_toArray, List.map_cons, List.map_nil]); first | done | rfl | (simp only [List.length_drop, List.length_take]; rfl)) ?_; (with_reducible refine (fact_Fine.calls a0_0 a0_1 t105 _ A3.out).mono ?_); rintro e w34 ⟨rfl, hb⟩; refine ⟨_, rfl, ?_⟩; have n0_ := Aside0.mk (blk_below (bk_ BK103.out) hb); have n1_ := Aside0.mk (blk_below (bk_ BK104.out) hb); have n2_ := Aside0.mk (below_step (bw_ HB.out) hb); clear BK103 BK104 HB; have BK103 := n0_; have BK104 := n1_; have HB := n2_; clear n0_ n1_ n2_; (try clear hb); (try clear hb2); (try clear hk); (try clear hi); have hcz35_0 : w34.cell? ⟨gb104, 0, none⟩ = some (.int .i64 a1_0) := (blk_cell BK104.out 0).trans rfl; have hcz35_1 : w34.cell? ⟨gb104, 1, none⟩ = some (.slice A1_1 l1_1.length c1_1) := (blk_cell BK104.out 1).trans rfl; have hcz35_2 : w34.cell? ⟨gb104, 2, none⟩ = some (.slice A1_2 l1_2.length c1_2) := (blk_cell BK104.out 2).trans rfl; have hfz35_0 := blk_frozen BK104.out 0; have hfz35_1 := blk_frozen BK104.out 1; have hfz35_2 := blk_frozen BK104.out 2; have hcz36_0 : w34.cell? ⟨gb103, 0, none⟩ = some (.int .i64 a0_0) := (blk_cell BK103.out 0).trans rfl; have hcz36_1 : w34.cell? ⟨gb103, 1, none⟩ = some (.int .i64 a0_1) := (blk_cell BK103.out 1).trans rfl; have hfz36_0 := blk_frozen BK103.out 0; have hfz36_1 := blk_frozen BK103.out 1) | (go_at_call 28; (with_reducible refine (slices_ContainsFunc_string_string_at_fact_Check_1.calls _ _ l1_1 false _ ?side1 ?side2 A21.out).mono ?_); (case side1 => repeat (first | exact (Kd.C_below HR1_1.out HB.out) | (with_reducible refine Kd.C_alloc ?_ _) | (with_reducible refine Kd.C_drewN ?_ _) | (with_reducible refine Kd.C_drew ?_))); (case side2 => exact HC1_1.out); rintro e w' ⟨rfl, ⟨nd, rfl⟩⟩))
       go_ret
       exact ⟨by first | rfl | (simp [errW_none, errW_some] <;> rfl) | (simp [*, errW_none, errW_some] <;> rfl), by repeat (first | (with_reducible first | exact HB.out | apply below_alloc | apply pw_below_drewN | apply below_drew1 | refine below_set ?_ GE103.out | refine below_set ?_ GE104.out) | exact HB.out)⟩
     ·rw [if_neg c20] at H
      have c20b0 : ((l1_2.length : Int) == a0_1) = false := beq_eq_false_iff_ne.mpr c20
      have c20b1 : ((l1_2.length : Int) != a0_1) = true := bne_iff_ne.mpr c20
      obtain rfl := Option.some.inj H
      go_enter Try.func12, Try.ntmps12
      go_wp2_with (first | ((with_reducible refine gate_dst (N := 2) rfl ?_); (try (refine gate_guard (by rfl) ?_; dsimp only)); refine bx_ (N := 2) (cs := #[.int .i64 a0_0, .int .i64 a0_1]) (t := 23) ?_; intro gb103 hg w37 hbox hb; have n0_ := Aside0.mk (below_step (bw_ HB.out) hb); have n1_ := Aside0.mk (hbox); have n2_ := Aside0.mk (sz_ hg (bw_ HB.out)); have n3_ := n2_; clear HB; have HB := n0_; have BK103 := n1_; have GW103 := n2_; have GE103 := n3_; clear n0_ n1_ n2_ n3_; clear hb hbox hg) | ((with_reducible refine gate_dst (N := 3) rfl ?_); (try (refine gate_guard (by rfl) ?_; dsimp only)); refine bx_ (N := 3) (cs := #[.int .i64 a1_0, .slice A1_1 l1_1.length c1_1, .slice A1_2 l1_2.length c1_2]) (t := 27) ?_; intro gb104 hg w38 hbox hb; have n0_ := Aside0.mk (blk_below (bk_ BK103.out) hb); have n1_ := Aside0.mk (below_step (bw_ HB.out) hb); have n2_ := Aside0.mk (hbox); have n3_ := Aside0.mk (sz_ hg (bw_ HB.out)); have n4_ := n3_; have n5_ := Aside0.mk (ne_ hg (blk_lt (bk_ BK103.out))); have n6_ := Aside0.mk n5_.out.symm; clear BK103 HB; have BK103 := n0_; have HB := n1_; have BK104 := n2_; have GW104 := n3_; have GE104 := n4_; have NB103_104 := n5_; have NB104_103 := n6_; clear n0_ n1_ n2_ n3_ n4_ n5_ n6_; clear hb hbox hg; have hnb39 := NB103_104.out; have hnc39 := NB104_103.out; have hcz40_0 : w38.cell? ⟨gb103, 0, none⟩ = some (.int .i64 a0_0) := (blk_cell BK103.out 0).trans rfl; have hcz40_1 : w38.cell? ⟨gb103, 1, none⟩ = some (.int .i64 a0_1) := (blk_cell BK103.out 1).trans rfl; have hfz40_0 := blk_frozen BK103.out 0; have hfz40_1 := blk_frozen BK103.out 1) | ((with_reducible refine gate_callee (f := 11) rfl ?_); refine goesL_ (some 8) rfl rfl Try.func11 (by kernel_rfl) rfl #[.agg #[.int .i64 a0_0, .int .i64 a0_1]] rfl (by (try simp only [List.map_toArray, List.map_cons, List.map_nil]); first | done | rfl | (simp only [List.length_drop, List.length_take]; rfl)) ?_; (with_reducible refine (fact_Fine.calls a0_0 a0_1 t105 _ A3.out).mono ?_); rintro e w41 ⟨rfl, hb⟩; refine ⟨_, rfl, ?_⟩; have n0_ := Aside0.mk (blk_below (bk_ BK103.out) hb); have n1_ := Aside0.mk (blk_below (bk_ BK104.out) hb); have n2_ := Aside0.mk (below_step (bw_ HB.out) hb); clear BK103 BK104 HB; have BK103 := n0_; have BK104 := n1_; have HB := n2_; clear n0_ n1_ n2_; (try clear hb); (try clear hb2); (try clear hk); (try clear hi); have hcz42_0 : w41.cell? ⟨gb104, 0, none⟩ = some (.int .i64 a1_0) := (blk_cell BK104.out 0).trans rfl; have hcz42_1 : w41.cell? ⟨gb104, 1, none⟩ = some (.slice A1_1 l1_1.length c1_1) := (blk_cell BK104.out 1).trans rfl; have hcz42_2 : w41.cell? ⟨gb104, 2, none⟩ = some (.slice A1_2 l1_2.length c1_2) := (blk_cell BK104.out 2).trans rfl; have hfz42_0 := blk_frozen BK104.out 0; have hfz42_1 := blk_frozen BK104.out 1; have hfz42_2 := blk_frozen BK104.out 2; have hcz43_0 : w41.cell? ⟨gb103, 0, none⟩ = some (.int .i64 a0_0) := (blk_cell BK103.out 0).trans rfl; have hcz43_1 : w41.cell? ⟨gb103, 1, none⟩ = some (.int .i64 a0_1) := (blk_cell BK103.out 1).trans rfl; have hfz43_0 := blk_frozen BK103.out 0; have hfz43_1 := blk_frozen BK103.out 1))
      go_ret
      exact ⟨by first | rfl | (simp [errW_none, errW_some] <;> rfl) | (simp [*, errW_none, errW_some] <;> rfl), by repeat (first | (with_reducible first | exact HB.out | apply below_alloc | apply pw_below_drewN | apply below_drew1 | refine below_set ?_ GE103.out | refine below_set ?_ GE104.out) | exact HB.out)⟩
    ·rw [if_neg c19] at H
     have c19b0 : ((l1_1.length : Int) == a0_0) = false := beq_eq_false_iff_ne.mpr c19
     have c19b1 : ((l1_1.length : Int) != a0_0) = true := bne_iff_ne.mpr c19
     obtain rfl := Option.some.inj H
     go_enter Try.func12, Try.ntmps12
     go_wp2_with (first | ((with_reducible refine gate_dst (N := 2) rfl ?_); (try (refine gate_guard (by rfl) ?_; dsimp only)); refine bx_ (N := 2) (cs := #[.int .i64 a0_0, .int .i64 a0_1]) (t := 23) ?_; intro gb103 hg w44 hbox hb; have n0_ := Aside0.mk (below_step (bw_ HB.out) hb); have n1_ := Aside0.mk (hbox); have n2_ := Aside0.mk (sz_ hg (bw_ HB.out)); have n3_ := n2_; clear HB; have HB := n0_; have BK103 := n1_; have GW103 := n2_; have GE103 := n3_; clear n0_ n1_ n2_ n3_; clear hb hbox hg) | ((with_reducible refine gate_dst (N := 3) rfl ?_); (try (refine gate_guard (by rfl) ?_; dsimp only)); refine bx_ (N := 3) (cs := #[.int .i64 a1_0, .slice A1_1 l1_1.length c1_1, .slice A1_2 l1_2.length c1_2]) (t := 27) ?_; intro gb104 hg w45 hbox hb; have n0_ := Aside0.mk (blk_below (bk_ BK103.out) hb); have n1_ := Aside0.mk (below_step (bw_ HB.out) hb); have n2_ := Aside0.mk (hbox); have n3_ := Aside0.mk (sz_ hg (bw_ HB.out)); have n4_ := n3_; have n5_ := Aside0.mk (ne_ hg (blk_lt (bk_ BK103.out))); have n6_ := Aside0.mk n5_.out.symm; clear BK103 HB; have BK103 := n0_; have HB := n1_; have BK104 := n2_; have GW104 := n3_; have GE104 := n4_; have NB103_104 := n5_; have NB104_103 := n6_; clear n0_ n1_ n2_ n3_ n4_ n5_ n6_; clear hb hbox hg; have hnb46 := NB103_104.out; have hnc46 := NB104_103.out; have hcz47_0 : w45.cell? ⟨gb103, 0, none⟩ = some (.int .i64 a0_0) := (blk_cell BK103.out 0).trans rfl; have hcz47_1 : w45.cell? ⟨gb103, 1, none⟩ = some (.int .i64 a0_1) := (blk_cell BK103.out 1).trans rfl; have hfz47_0 := blk_frozen BK103.out 0; have hfz47_1 := blk_frozen BK103.out 1) | ((with_reducible refine gate_callee (f := 11) rfl ?_); refine goesL_ (some 8) rfl rfl Try.func11 (by kernel_rfl) rfl #[.agg #[.int .i64 a0_0, .int .i64 a0_1]] rfl (by (try simp only [List.map_toArray, List.map_cons, List.map_nil]); first | done | rfl | (simp only [List.length_drop, List.length_take]; rfl)) ?_; (with_reducible refine (fact_Fine.calls a0_0 a0_1 t105 _ A3.out).mono ?_); rintro e w48 ⟨rfl, hb⟩; refine ⟨_, rfl, ?_⟩; have n0_ := Aside0.mk (blk_below (bk_ BK103.out) hb); have n1_ := Aside0.mk (blk_below (bk_ BK104.out) hb); have n2_ := Aside0.mk (below_step (bw_ HB.out) hb); clear BK103 BK104 HB; have BK103 := n0_; have BK104 := n1_; have HB := n2_; clear n0_ n1_ n2_; (try clear hb); (try clear hb2); (try clear hk); (try clear hi); have hcz49_0 : w48.cell? ⟨gb104, 0, none⟩ = some (.int .i64 a1_0) := (blk_cell BK104.out 0).trans rfl; have hcz49_1 : w48.cell? ⟨gb104, 1, none⟩ = some (.slice A1_1 l1_1.length c1_1) := (blk_cell BK104.out 1).trans rfl; have hcz49_2 : w48.cell? ⟨gb104, 2, none⟩ = some (.slice A1_2 l1_2.length c1_2) := (blk_cell BK104.out 2).trans rfl; have hfz49_0 := blk_frozen BK104.out 0; have hfz49_1 := blk_frozen BK104.out 1; have hfz49_2 := blk_frozen BK104.out 2; have hcz50_0 : w48.cell? ⟨gb103, 0, none⟩ = some (.int .i64 a0_0) := (blk_cell BK103.out 0).trans rfl; have hcz50_1 : w48.cell? ⟨gb103, 1, none⟩ = some (.int .i64 a0_1) := (blk_cell BK103.out 1).trans rfl; have hfz50_0 := blk_frozen BK103.out 0; have hfz50_1 := blk_frozen BK103.out 1))
     go_ret
     exact ⟨by first | rfl | (simp [errW_none, errW_some] <;> rfl) | (simp [*, errW_none, errW_some] <;> rfl), by repeat (first | (with_reducible first | exact HB.out | apply below_alloc | apply pw_below_drewN | apply below_drew1 | refine below_set ?_ GE103.out | refine below_set ?_ GE104.out) | exact HB.out)⟩
 ·rw [if_neg c4] at H
  have c4b0 : (t105 == 0) = false := beq_eq_false_iff_ne.mpr c4
  have c4b1 : (t105 != 0) = true := bne_iff_ne.mpr c4
  obtain rfl := Option.some.inj H
  go_enter Try.func12, Try.ntmps12
  go_wp2_with (first | ((with_reducible refine gate_dst (N := 2) rfl ?_); (try (refine gate_guard (by rfl) ?_; dsimp only)); refine bx_ (N := 2) (cs := #[.int .i64 a0_0, .int .i64 a0_1]) (t := 23) ?_; intro gb103 hg w51 hbox hb; have n0_ := Aside0.mk (below_step (bw_ HB.out) hb); have n1_ := Aside0.mk (hbox); have n2_ := Aside0.mk (sz_ hg (bw_ HB.out)); have n3_ := n2_; clear HB; have HB := n0_; have BK103 := n1_; have GW103 := n2_; have GE103 := n3_; clear n0_ n1_ n2_ n3_; clear hb hbox hg) | ((with_reducible refine gate_dst (N := 3) rfl ?_); (try (refine gate_guard (by rfl) ?_; dsimp only)); refine bx_ (N := 3) (cs := #[.int .i64 a1_0, .slice A1_1 l1_1.length c1_1, .slice A1_2 l1_2.length c1_2]) (t := 27) ?_; intro gb104 hg w52 hbox hb; have n0_ := Aside0.mk (blk_below (bk_ BK103.out) hb); have n1_ := Aside0.mk (below_step (bw_ HB.out) hb); have n2_ := Aside0.mk (hbox); have n3_ := Aside0.mk (sz_ hg (bw_ HB.out)); have n4_ := n3_; have n5_ := Aside0.mk (ne_ hg (blk_lt (bk_ BK103.out))); have n6_ := Aside0.mk n5_.out.symm; clear BK103 HB; have BK103 := n0_; have HB := n1_; have BK104 := n2_; have GW104 := n3_; have GE104 := n4_; have NB103_104 := n5_; have NB104_103 := n6_; clear n0_ n1_ n2_ n3_ n4_ n5_ n6_; clear hb hbox hg; have hnb53 := NB103_104.out; have hnc53 := NB104_103.out; have hcz54_0 : w52.cell? ⟨gb103, 0, none⟩ = some (.int .i64 a0_0) := (blk_cell BK103.out 0).trans rfl; have hcz54_1 : w52.cell? ⟨gb103, 1, none⟩ = some (.int .i64 a0_1) := (blk_cell BK103.out 1).trans rfl; have hfz54_0 := blk_frozen BK103.out 0; have hfz54_1 := blk_frozen BK103.out 1) | ((with_reducible refine gate_callee (f := 11) rfl ?_); refine goesL_ (some 8) rfl rfl Try.func11 (by kernel_rfl) rfl #[.agg #[.int .i64 a0_0, .int .i64 a0_1]] rfl (by (try simp only [List.map_toArray, List.map_cons, List.map_nil]); first | done | rfl | (simp only [List.length_drop, List.length_take]; rfl)) ?_; (with_reducible refine (fact_Fine.calls a0_0 a0_1 t105 _ A3.out).mono ?_); rintro e w55 ⟨rfl, hb⟩; refine ⟨_, rfl, ?_⟩; have n0_ := Aside0.mk (blk_below (bk_ BK103.out) hb); have n1_ := Aside0.mk (blk_below (bk_ BK104.out) hb); have n2_ := Aside0.mk (below_step (bw_ HB.out) hb); clear BK103 BK104 HB; have BK103 := n0_; have BK104 := n1_; have HB := n2_; clear n0_ n1_ n2_; (try clear hb); (try clear hb2); (try clear hk); (try clear hi)))
  go_ret
  exact ⟨by first | rfl | (simp [errW_none, errW_some] <;> rfl) | (simp [*, errW_none, errW_some] <;> rfl), by repeat (first | (with_reducible first | exact HB.out | apply below_alloc | apply pw_below_drewN | apply below_drew1 | refine below_set ?_ GE103.out | refine below_set ?_ GE104.out) | exact HB.out)⟩
end Go.Proofs.Ytfeeahjaeapkoaa.P
end
