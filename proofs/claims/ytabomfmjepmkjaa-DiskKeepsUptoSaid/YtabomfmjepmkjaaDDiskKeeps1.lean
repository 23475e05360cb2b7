/- Texts of this repo, joined, without what this claim does not use: WWords, WLast, WApart, WFoot, WKept, WShare, WN, WMore, WRepsOne, WTab, Lib, Reg, Mem, Text, Own, StrCmp, MapL, DkAt, Bk, BkOut, DkAt2, DelT, P0, Short, P1, DkOps1, DkOps2. -/
import Derived.Below
import Derived.Deep.Draws
import Derived.Deep.AppendLies
import Derived.Maps.AppendAt
import Derived.OwnWalk
import Derived.Laws.BytesArg
import Derived.Laws.MakeOwn
import Derived.Laws.OwnMore
import Derived.Deep.OwnRows
import Derived.Tactics
import Derived.Lib.ConvBytes
import Derived.Laws.Slices
import Derived.WalkKit
import Derived.KernelRfl
import Derived.RowKit3
import Derived.Deep.LoopGhost
import Derived.Deep.QuietTactic
import Derived.BigQuiet
import Derived.WideLaws
import Derived.Deep.DeepCutAuto
import Derived.Deep.CutBlock
import Derived.Deep.RegionHeld3
import Derived.Laws.Rows
import Derived.Lib.AppendStr
import Derived.ArgAppend
import Derived.Laws.IdiomCopy
import Derived.RowKit
import Derived.OrdersHeld
import Derived.Laws.BitsLemmas
import Derived.Laws.CopyOwn
import Derived.Lib.SlBytesConst
import Derived.Test.YtabomfmjepmkjaaChecked
import Derived.WalkSpells
import Derived.Outline
import Derived.Deep.Upon
import Derived.Sort.EncStr
import Derived.Sort.Walk0
import Derived.Lib.SlicesCompact
import Derived.Lib.RowBridge
import Derived.MapKept
import Derived.ChangeMaps5
import Derived.Maps.RangeRun
import Derived.Maps.Own
import Derived.Test.YtabomfmjepmkjaaProg
import Derived.SizedLaws
import Derived.ChangeSlices
import Derived.Laws.StructEq
import Derived.ProofKit
import Derived.OpenShut
section
set_option linter.unusedVariables false
set_option linter.unusedSimpArgs false
namespace Go.Proofs.YtabomfmjepmkjaaW.PrintWords
open Go.RowKit
structure Aside0 (p : Prop) : Prop where mk :: (out : p)
structure Drawn0 (w w' : World) : Prop where mk :: (out : ∃ n, w' = w.drewN n)
theorem Drawn0.refl (w : World) : Drawn0 w w := ⟨⟨0, rfl⟩⟩
theorem Drawn0.step {w w' : World} (h : Drawn0 w w') (n : Nat) : Drawn0 w (w'.drewN n) := by
  obtain ⟨m, rfl⟩ := h
  exact ⟨⟨m + n, World.drewN_drewN ..⟩⟩
theorem Drawn0.grown {w w' : World} (h : Drawn0 w w') : Grown w w' := by
  obtain ⟨n, rfl⟩ := h
  induction n with
  | zero => exact Grown.refl _
  | succ n ih => rw [← World.drew_drewN]; exact Grown.drew ih
theorem Drawn0.below {w w' : World} (h : Drawn0 w w') : Below w.heap.size w w' := by
  obtain ⟨n, rfl⟩ := h
  induction n with
  | zero => exact Below.refl _ _
  | succ n ih => rw [← World.drew_drewN]; exact ih.drew
def rd (xs : List Int) (i : Int) : Int := xs.getD i.toNat 0
def bt (s : ByteArray) (i : Int) : Int := if h : i.toNat < s.size then ((s[i.toNat]'h).toNat : Int) else 0
theorem bt_at (s : ByteArray) (i : Int) : ∀ h : i.toNat < s.size, ((s[i.toNat]'h).toNat : Int) = bt s i := fun h => by simp [bt, h]
theorem below_alloc {w W : World} (h : Below w.heap.size w W) (o : Obj) : Below w.heap.size w (W.alloc o) := h.alloc h.size o
theorem below_drew {B : Nat} {w W : World} (h : Below B w W) : Below B w W.drew := ⟨h.os, h.tape, h.output, h.size, h.block⟩
theorem pw_below_drewN {B : Nat} {w W : World} (h : Below B w W) (n : Nat) : Below B w (W.drewN n) := ⟨h.os, h.tape, h.output, h.size, h.block⟩
theorem below_then {B : Nat} {w w1 w2 : World} (h : Below B w w1) (hB : B ≤ w1.heap.size) (k : Below w1.heap.size w1 w2) : Below B w w2 :=
  h.trans ⟨k.os, k.tape, k.output, k.size, fun i hi => k.block i (Nat.lt_of_lt_of_le hi hB)⟩
theorem grown_of_below {w w1 : World} (h : Below w.heap.size w w1) (row : Option Nat) : w.grownBy w1 row := ⟨h.os, h.tape, h.output, h.size, fun i hi _ => h.block i hi⟩
theorem pw_cell_below {w w1 : World} (h : Below w.heap.size w w1) {a : Addr} {v : Value} (hc : w.cell? a = some v) : w1.cell? a = some v := (h.cell (World.block_lt_of_cell? w a hc)).trans hc
def ReadsInt (w : World) (k : IntKind) (A : Option Addr) (n : Nat) (xs : List Int) : Prop :=
  xs.length = n ∧ n ≤ 9223372036854775807 ∧ (0 < n → ∃ ad, A = some ad ∧ ∀ j, j < n → w.cell? (ad.add j) = some (.int k (xs.getD j 0)))
theorem ReadsInt.at_ {w : World} {k : IntKind} {A : Option Addr} {n : Nat} {xs : List Int} (h : ReadsInt w k A n xs) (i : Int) (h0 : 0 ≤ i) (h1 : i < n) : ∃ ad, A = some ad ∧ w.cell? (ad.add i.toNat) = some (.int k (rd xs i)) := by
  obtain ⟨ad, e, hc⟩ := h.2.2 (by omega)
  exact ⟨ad, e, hc _ (by omega)⟩
theorem ReadsInt.below {w w1 : World} {k : IntKind} {A : Option Addr} {n : Nat} {xs : List Int} (h : ReadsInt w k A n xs) (hb : Below w.heap.size w w1) : ReadsInt w1 k A n xs :=
  ⟨h.1, h.2.1, fun hn => by
    obtain ⟨ad, e, hc⟩ := h.2.2 hn
    exact ⟨ad, e, fun j hj => pw_cell_below hb (hc j hj)⟩⟩
theorem own_nil (W : World) (base : Nat) (e : TypeId) (size : Nat) : W.ownsRow base e size (.slice none 0 0) 0 [] := ⟨by simp, .inl ⟨rfl, rfl⟩⟩
theorem own_base {w : World} {base : Nat} {e : TypeId} {size n : Nat} {v : Value} {xs : List Value} (h : w.ownsRow base e size v n xs) (k : Nat) (hk : v.ownBlock = some k) : base ≤ k := by
  rcases h.2 with ⟨rfl, _⟩ | ⟨g, cap, cur, rfl, hb, _⟩
  · simp [Value.ownBlock] at hk
  · have : g = k := by simpa [Value.ownBlock] using hk
    omega
theorem own_lt {w : World} {base : Nat} {e : TypeId} {size n : Nat} {v : Value} {xs : List Value} (h : w.ownsRow base e size v n xs) (k : Nat) (hk : v.ownBlock = some k) : k < w.heap.size := by
  rcases h.2 with ⟨rfl, _⟩ | ⟨g, cap, cur, rfl, hb, hh, _⟩
  · simp [Value.ownBlock] at hk
  · have : g = k := by simpa [Value.ownBlock] using hk
    subst this
    exact (Array.getElem?_eq_some_iff.1 hh).1
theorem pw_own_below {w w1 : World} {base : Nat} {e : TypeId} {size n : Nat} {v : Value} {xs : List Value} (h : w.ownsRow base e size v n xs) (hb : Below w.heap.size w w1) : w1.ownsRow base e size v n xs :=
  h.kept (grown_of_below hb none) (by cases v.ownBlock <;> simp)
theorem own_slice {w : World} {base n : Nat} {e : TypeId} {size : Nat} {v : Value} {xs : List Value} (h : w.ownsRow base e size v n xs) : ∃ A c, v = .slice A n c := by
  rcases h.2 with ⟨rfl, rfl⟩ | ⟨g, cap, cur, rfl, _⟩
  · exact ⟨none, 0, rfl⟩
  · exact ⟨_, cap, rfl⟩
section
variable {P : Program} {ops : Array Oper} {rest : List Oper} {o : Oper} {a : Act} {Q : Exit → Act → World → Prop}
end
section
variable {P : Program}
end
section
variable {P : Program} {ops : Array Oper} {rest : List Oper} {o : Oper} {a : Act} {Q : Exit → Act → World → Prop}
end
def bytesOf (s : ByteArray) : List Int := s.data.toList.map fun b => (b.toNat : Int)
theorem ReadsInt.take_ {w : World} {k : IntKind} {A : Option Addr} {n : Nat} {xs : List Int} (h : ReadsInt w k A n xs) (i : Nat) (hi : i ≤ n) : ReadsInt w k A i (xs.take i) := by
  refine ⟨by rw [List.length_take, h.1]; omega, by have := h.2.1; omega, fun hp => ?_⟩
  obtain ⟨ad, e, hc⟩ := h.2.2 (by omega)
  refine ⟨ad, e, fun j hj => ?_⟩
  rw [hc j (by omega)]
  simp [List.getD_eq_getElem?_getD, hj]
def LeO {α : Type} (a b : Option α) : Prop := ∀ r, a = some r → b = some r
theorem LeO.refl {α : Type} (a : Option α) : LeO a a := fun _ h => h
theorem LeO.none {α : Type} (b : Option α) : LeO Option.none b := fun _ h => by cases h
theorem LeO.trans {α : Type} {a b c : Option α} (h : LeO a b) (k : LeO b c) : LeO a c := fun r hr => k r (h r hr)
theorem LeO.bind {α β : Type} {a a' : Option α} {f f' : α → Option β} (h : LeO a a') (k : ∀ x, LeO (f x) (f' x)) : LeO (a.bind f) (a'.bind f') := by
  intro r hr
  obtain ⟨x, hx, hf⟩ := Option.bind_eq_some_iff.1 hr
  exact Option.bind_eq_some_iff.2 ⟨x, h x hx, k x r hf⟩
theorem LeO.map {α β : Type} {a a' : Option α} (f : α → β) (h : LeO a a') : LeO (a.map f) (a'.map f) := by
  intro r hr
  obtain ⟨x, hx, hf⟩ := Option.map_eq_some_iff.1 hr
  exact Option.map_eq_some_iff.2 ⟨x, h x hx, hf⟩
def Reps {α : Type} (R : α → List Value → Prop) (size : Nat) (ps : List α) (cs : List Value) : Prop :=
  cs.length = ps.length * size ∧ ∀ j p, ps[j]? = some p → R p ((cs.drop (j * size)).take size)
theorem Reps.none {α : Type} (R : α → List Value → Prop) (size : Nat) : Reps R size [] [] := ⟨by simp, fun j p h => by simp at h⟩
theorem Reps.snoc {α : Type} {R : α → List Value → Prop} {size : Nat} {ps : List α} {cs c : List Value} {p : α} (h : Reps R size ps cs) (hp : R p c) (hc : c.length = size) : Reps R size (ps ++ [p]) (cs ++ c) := by
  refine ⟨by rw [List.length_append, h.1, hc, List.length_append, List.length_singleton, Nat.add_mul, Nat.one_mul], fun j q hq => ?_⟩
  rcases Nat.lt_or_ge j ps.length with hj | hj
  · rw [List.getElem?_append_left hj] at hq
    have h1 : j * size + size ≤ cs.length := by rw [h.1, ← Nat.succ_mul]; exact Nat.mul_le_mul_right _ hj
    have h2 := h.2 j q hq
    rw [List.drop_append_of_le_length (by omega), List.take_append_of_le_length (by rw [List.length_drop]; omega)]
    exact h2
  · have hj' : j = ps.length := by
      have := (List.getElem?_eq_some_iff.1 hq).1
      rw [List.length_append, List.length_singleton] at this
      omega
    subst hj'
    have hq' : p = q := by simpa using hq
    subst hq'
    rw [← h.1, List.drop_left, ← hc, List.take_length]
    exact hp
theorem Reps.imp_ {α : Type} {R R' : α → List Value → Prop} {size : Nat} {ps : List α} {cs : List Value} (h : Reps R size ps cs) (hR : ∀ p c, R p c → R' p c) : Reps R' size ps cs := ⟨h.1, fun j p hj => hR _ _ (h.2 j p hj)⟩
def ReadsRow {α : Type} (R : α → List Value → Prop) (size : Nat) (w : World) (A : Option Addr) (n : Nat) (ps : List α) : Prop :=
  ps.length = n ∧ n ≤ 9223372036854775807 ∧ (0 < n → ∃ ad, A = some ad ∧ ∀ j p, ps[j]? = some p → ∃ c, c.length = size ∧ R p c ∧ ∀ i u, c[i]? = some u → w.cell? (ad.add (j * size + i)) = some u)
theorem ReadsRow.get_ {α : Type} {R : α → List Value → Prop} {size : Nat} {w : World} {A : Option Addr} {n : Nat} {ps : List α} (h : ReadsRow R size w A n ps) (d : α) (i : Int) (h0 : 0 ≤ i) (h1 : i < n) :
    ∃ ad c, A = some ad ∧ c.length = size ∧ R (ps.getD i.toNat d) c ∧ ∀ j u, c[j]? = some u → w.cell? (ad.add (i.toNat * size + j)) = some u := by
  obtain ⟨ad, e, hc⟩ := h.2.2 (by omega)
  have hl : i.toNat < ps.length := by have := h.1; omega
  obtain ⟨c, hs, hr, hcell⟩ := hc i.toNat _ (List.getElem?_eq_getElem hl)
  refine ⟨ad, c, e, hs, ?_, hcell⟩
  rw [List.getD_eq_getElem?_getD, List.getElem?_eq_getElem hl]
  exact hr
theorem ReadsRow.imp_ {α : Type} {R R' : α → List Value → Prop} {size : Nat} {w w1 : World} {A : Option Addr} {n : Nat} {ps : List α} (h : ReadsRow R size w A n ps) (hb : Below w.heap.size w w1) (hR : ∀ p c, R p c → R' p c) : ReadsRow R' size w1 A n ps :=
  ⟨h.1, h.2.1, fun hn => by
    obtain ⟨ad, e, hc⟩ := h.2.2 hn
    refine ⟨ad, e, fun j p hj => ?_⟩
    obtain ⟨c, hs, hr, hcell⟩ := hc j p hj
    exact ⟨c, hs, hR _ _ hr, fun i u hu => pw_cell_below hb (hcell i u hu)⟩⟩
theorem own_reads_row {α : Type} {R : α → List Value → Prop} {w : World} {base n size : Nat} {e : TypeId} {v : Value} {ps : List α} {cs : List Value} (h : w.ownsRow base e size v n cs) (hR : Reps R size ps cs) (hn : ps.length = n) :
    ∃ A c, v = .slice A n c ∧ ReadsRow R size w A n ps := by
  rcases Nat.eq_zero_or_pos n with h0 | h0
  · rcases h.2 with ⟨rfl, rfl⟩ | ⟨g, cap, cur, rfl, _⟩
    · exact ⟨none, 0, rfl, hn, by omega, fun hp => absurd hp (by omega)⟩
    · exact ⟨_, cap, rfl, hn, by omega, fun hp => absurd hp (by omega)⟩
  · obtain ⟨g, cap, rfl, _, _⟩ := h.form h0
    have hm : n ≤ 9223372036854775807 := by
      rcases h.2 with ⟨_, h1⟩ | ⟨g', cap', cur, he, _, _, h1, h2, _⟩
      · omega
      · simp only [maxLen] at h2
        omega
    refine ⟨_, cap, rfl, hn, hm, fun _ => ⟨_, rfl, fun j p hj => ⟨(cs.drop (j * size)).take size, ?_, hR.2 j p hj, fun i u hu => ?_⟩⟩⟩
    · have hjl := (List.getElem?_eq_some_iff.1 hj).1
      have h1 : j * size + size ≤ cs.length := by rw [hR.1, ← Nat.succ_mul]; exact Nat.mul_le_mul_right _ hjl
      rw [List.length_take, List.length_drop]
      omega
    · refine h.cells (g := g) rfl _ u ?_
      rw [List.getElem?_take] at hu
      split at hu
      · rw [List.getElem?_drop] at hu
        exact hu
      · cases hu
theorem add_field (ad : Addr) (m j : Nat) (hj : 0 < j) : ad.add (m + j) = ⟨(ad.add m).block, (ad.add m).off + j, none⟩ := by
  unfold Addr.add
  by_cases hm : m = 0
  · subst hm
    simp [Nat.ne_of_gt hj]
  · simp [hm, Nat.add_assoc]
section
variable {P : Program} {ops : Array Oper} {rest : List Oper} {o : Oper} {a : Act} {Q : Exit → Act → World → Prop}
theorem print_append_cells {w0 W : World} (base : Nat) (hgd : o.guard = none) (s x : Operand) (t e : TypeId) (z : Value) (size bytes : Nat)
    (ho : o.op = .call { callee := .builtin .append, args := #[s, x], argTypes := #[t, t] })
    (ht : P.underlying t = some (.slice e)) (hinfo : (P.info? e).map (fun i => (i.zero, i.size, i.bytes)) = some (some z, size, bytes)) (hz : z.cells.size = size) (hs0 : 0 < size) (hb0 : 0 < bytes)
    (v : Value) (n : Nat) (xs ys : List Value) (hs : a.eval s = v) (hx : a.eval x = .slice (some ⟨W.heap.size, 0, none⟩) 1 1) (hys : ys.length = size) (h1 : ∀ u ∈ ys, u.oneCell' = true)
    (HO : W.ownsRow base e size v n xs) (HB : Below base w0 W) (hbase : base ≤ W.heap.size) (hl : (n + 1) * bytes ≤ 140737488355328)
    (h : ∀ v1 w1, w1.ownsRow base e size v1 (n + 1) (xs ++ ys) → Below base w0 w1 → W.grownBy w1 v.ownBlock → (v1.ownBlock = v.ownBlock ∨ ∃ b, v1.ownBlock = some b ∧ W.heap.size ≤ b) → wpList P ops Q rest (a.put o.dst v1) w1) :
    wpList P ops Q (o :: rest) a (W.alloc (.cells ys.toArray e)) := by
  obtain ⟨i0, hi, hzz⟩ := Option.map_eq_some_iff.1 hinfo
  simp only [Prod.mk.injEq] at hzz
  obtain ⟨hz0, hz1, hz2⟩ := hzz
  have hlen : n + 1 ≤ 140737488355328 := Nat.le_trans (Nat.le_mul_of_pos_right _ hb0) hl
  refine wpList_append_own_at (W.alloc (.cells ys.toArray e)) hgd s x t ho base e i0 z size bytes ht hi hz0 hz1 hz2 hz hs0 v n xs hs (HO.alloc _) ⟨W.heap.size, 0, none⟩ 1 1 ys hx (by rw [hys]; simp)
    (by simpa using World.news_of_block (cs := ys.toArray) (t := e) (fr := (0, 0)) (heap_alloc_new W (.cells ys.toArray e))) h1 (by simp only [maxLen]; omega) hl (by simp; omega) ?_
  intro v1 w1 hown hg _ hat
  refine h v1 w1 hown ((HB.alloc hbase _).grown hg (by simp; omega) (own_base HO)) (World.grownBy.trans (World.grownBy_alloc W _ _) hg) ?_
  rcases hat with hat | hat
  · exact .inl hat
  · exact .inr ⟨_, hat, by simp⟩
end
theorem blk_set {w : World} {g : Nat} {t : TypeId} {cs : Array Value} (h : w.heap[g]? = some (.cells cs t (0, 0))) (i : Nat) (u : Value) : (w.setCell ⟨g, i, none⟩ u).heap[g]? = some (.cells (cs.setIfInBounds i u) t (0, 0)) := by
  simp [World.setCell, Array.getElem?_modify, h]
theorem blk_lt {w : World} {g : Nat} {o : Obj} (h : w.heap[g]? = some o) : g < w.heap.size := (Array.getElem?_eq_some_iff.1 h).1
theorem blk_cell {w : World} {g : Nat} {t : TypeId} {cs : Array Value} (h : w.heap[g]? = some (.cells cs t (0, 0))) (i : Nat) : w.cell? ⟨g, i, none⟩ = cs[i]? := cell_of_row w g i cs t (0, 0) h
theorem blk_frozen {w : World} {g : Nat} {t : TypeId} {cs : Array Value} (h : w.heap[g]? = some (.cells cs t (0, 0))) (i : Nat) : w.frozen? ⟨g, i, none⟩ = false := by simp [World.frozen?, h]
def KeepBut (w w' : World) (g : Nat) (row : Option Nat) : Prop := w.heap.size ≤ w'.heap.size ∧ ∀ i, i < w.heap.size → i ≠ g → some i ≠ row → w'.heap[i]? = w.heap[i]?
theorem KeepBut.refl (w : World) (g : Nat) (row : Option Nat) : KeepBut w w g row := ⟨Nat.le_refl _, fun _ _ _ _ => rfl⟩
theorem KeepBut.of_below {w w1 : World} (h : Below w.heap.size w w1) (g : Nat) (row : Option Nat) : KeepBut w w1 g row := ⟨h.size, fun i hi _ _ => h.block i hi⟩
theorem KeepBut.trans {w w1 w2 : World} {g : Nat} {row row1 : Option Nat} (h : KeepBut w w1 g row) (k : KeepBut w1 w2 g row1) (hr : row1 = row ∨ ∃ b, row1 = some b ∧ w.heap.size ≤ b) : KeepBut w w2 g row :=
  ⟨Nat.le_trans h.1 k.1, fun i hi hg hn => by
    refine (k.2 i (Nat.lt_of_lt_of_le hi h.1) hg ?_).trans (h.2 i hi hg hn)
    rcases hr with rfl | ⟨b, rfl, hb⟩
    · exact hn
    · intro e
      injection e with e
      omega⟩
theorem KeepBut.blk {w w1 : World} {g g' : Nat} {row : Option Nat} {o : Obj} (h : KeepBut w w1 g row) (hb : w.heap[g']? = some o) (hg : g' ≠ g) (hr : some g' ≠ row) : w1.heap[g']? = some o := (h.2 g' (blk_lt hb) hg hr).trans hb
theorem KeepBut.own {w w1 : World} {g : Nat} {row : Option Nat} {base : Nat} {e : TypeId} {size n : Nat} {v : Value} {xs : List Value} (h : KeepBut w w1 g row) (ho : w.ownsRow base e size v n xs) (hg : v.ownBlock ≠ some g) (hr : v.ownBlock = none ∨ v.ownBlock ≠ row) : w1.ownsRow base e size v n xs := by
  obtain ⟨h1, h2⟩ := ho
  refine ⟨h1, ?_⟩
  rcases h2 with h2 | ⟨b, cap, cur, rfl, hb, hh, r⟩
  · exact .inl h2
  · refine .inr ⟨b, cap, cur, rfl, hb, h.blk hh ?_ ?_, r⟩
    · intro e
      exact hg (by rw [← e]; rfl)
    · rcases hr with hr | hr
      · simp [Value.ownBlock] at hr
      · exact hr
def Ev {α : Type} (g : Nat → Option α) (r : α) : Prop := ∃ K, ∀ k, K ≤ k → g k = some r
theorem Ev.bind {α β : Type} {g : Nat → Option α} {f : Nat → α → Option β} {a : α} {r : β} (h : Ev g a) (k : Ev (fun n => f n a) r) : Ev (fun n => (g n).bind (f n)) r := by
  obtain ⟨K, h⟩ := h
  obtain ⟨K', k⟩ := k
  refine ⟨max K K', fun n hn => ?_⟩
  have h1 := h n (by omega)
  have h2 := k n (by omega)
  simp only [h1, Option.bind_some]
  exact h2
theorem Ev.step {α : Type} {g f : Nat → Option α} {r : α} (h : ∀ k, g (k + 1) = f k) (k : Ev f r) : Ev g r := by
  obtain ⟨K, k⟩ := k
  refine ⟨K + 1, fun n hn => ?_⟩
  obtain ⟨m, rfl⟩ : ∃ m, n = m + 1 := ⟨n - 1, by omega⟩
  rw [h]
  exact k m (by omega)
theorem Ev.congr {α : Type} {g f : Nat → Option α} {r : α} (h : ∀ k, g k = f k) (k : Ev f r) : Ev g r := by
  obtain ⟨K, k⟩ := k
  exact ⟨K, fun n hn => (h n).trans (k n hn)⟩
section
variable {P : Program} {ops : Array Oper} {o : Oper} {a : Act} {Q : Exit → Act → World → Prop} {K : Act → World → Prop}
end
theorem own_weaken {w : World} {base base' : Nat} {e : TypeId} {size n : Nat} {v : Value} {xs : List Value} (h : w.ownsRow base e size v n xs) (hb : base' ≤ base) : w.ownsRow base' e size v n xs := by
  obtain ⟨h1, h2⟩ := h
  refine ⟨h1, ?_⟩
  rcases h2 with h2 | ⟨g, cap, cur, rfl, hg, r⟩
  · exact .inl h2
  · exact .inr ⟨g, cap, cur, rfl, Nat.le_trans hb hg, r⟩
section
variable {α : Type} {enc : α → Value} {d : α}
def encs (enc : α → Value) (xs : List α) : List Value := xs.map enc
def rdOf (d : α) (xs : List α) (i : Int) : α := xs.getD i.toNat d
theorem encs_length (xs : List α) : (encs enc xs).length = xs.length := by simp [encs]
def ReadsOf (enc : α → Value) (d : α) (w : World) (A : Option Addr) (n : Nat) (xs : List α) : Prop :=
  xs.length = n ∧ n ≤ 9223372036854775807 ∧ (0 < n → ∃ ad, A = some ad ∧ ∀ j, j < n → w.cell? (ad.add j) = some (enc (xs.getD j d)))
theorem ReadsOf.at_ {w : World} {A : Option Addr} {n : Nat} {xs : List α} (h : ReadsOf enc d w A n xs) (i : Int) (h0 : 0 ≤ i) (h1 : i < n) : ∃ ad, A = some ad ∧ w.cell? (ad.add i.toNat) = some (enc (rdOf d xs i)) := by
  obtain ⟨ad, e, hc⟩ := h.2.2 (by omega)
  exact ⟨ad, e, hc _ (by omega)⟩
theorem ReadsOf.below {w w1 : World} {A : Option Addr} {n : Nat} {xs : List α} (h : ReadsOf enc d w A n xs) (hb : Below w.heap.size w w1) : ReadsOf enc d w1 A n xs :=
  ⟨h.1, h.2.1, fun hn => by
    obtain ⟨ad, e, hc⟩ := h.2.2 hn
    exact ⟨ad, e, fun j hj => pw_cell_below hb (hc j hj)⟩⟩
theorem ReadsOf.take_ {w : World} {A : Option Addr} {n : Nat} {xs : List α} (h : ReadsOf enc d w A n xs) (i : Nat) (hi : i ≤ n) : ReadsOf enc d w A i (xs.take i) := by
  refine ⟨by rw [List.length_take, h.1]; omega, by have := h.2.1; omega, fun hp => ?_⟩
  obtain ⟨ad, e, hc⟩ := h.2.2 (by omega)
  refine ⟨ad, e, fun j hj => ?_⟩
  rw [hc j (by omega)]
  simp [List.getD_eq_getElem?_getD, hj]
theorem own_store_of {W : World} {base g n cap : Nat} {e : TypeId} {xs : List α} (h : W.ownsRow base e 1 (.slice (some ⟨g, 0, none⟩) n cap) n (encs enc xs)) (i : Int) (x : α) :
    (W.setCell ⟨g, i.toNat, none⟩ (enc x)).ownsRow base e 1 (.slice (some ⟨g, 0, none⟩) n cap) n (encs enc (xs.set i.toNat x)) ∧ W.grownBy (W.setCell ⟨g, i.toNat, none⟩ (enc x)) (some g) := by
  have hs := h.stored i.toNat (enc x)
  have he : (encs enc xs).set i.toNat (enc x) = encs enc (xs.set i.toNat x) := by simp [encs, List.map_set]
  rwa [he] at hs
end
section
variable {α : Type} {P : Program} {ops : Array Oper} {rest : List Oper} {o : Oper} {a : Act} {Q : Exit → Act → World → Prop}
end
theorem blk_alloc {w : World} {g : Nat} {o : Obj} (h : w.heap[g]? = some o) (o' : Obj) : (w.alloc o').heap[g]? = some o := (Below.heap_alloc w o' g (blk_lt h)).trans h
theorem blk_drew {w : World} {g : Nat} {o : Obj} (h : w.heap[g]? = some o) : w.drew.heap[g]? = some o := h
theorem blk_drewN {w : World} {g : Nat} {o : Obj} (h : w.heap[g]? = some o) (n : Nat) : (w.drewN n).heap[g]? = some o := h
theorem blk_below {w w1 : World} {g : Nat} {o : Obj} (h : w.heap[g]? = some o) (hb : Below w.heap.size w w1) : w1.heap[g]? = some o := (hb.block g (blk_lt h)).trans h
theorem blk_new (w : World) (o : Obj) : (w.alloc o).heap[w.heap.size]? = some o := heap_alloc_new w o
section
variable {P : Program}
end
theorem own_le {w : World} {base n m c size : Nat} {e : TypeId} {A : Option Addr} {xs : List Value} (h : w.ownsRow base e size (.slice A m c) n xs) : m ≤ c := by
  rcases h.2 with ⟨he, _⟩ | ⟨g, cap, cur, he, _, _, hnc, _⟩
  · injection he with _ h2 h3
    omega
  · injection he with _ h2 h3
    omega
def OwnRow {α : Type} (R : α → List Value → Prop) (e : TypeId) (size : Nat) (w : World) (base : Nat) (v : Value) (ps : List α) : Prop :=
  ∃ inner, w.ownsRow base e size v ps.length inner ∧ Reps R size ps inner
section
variable {α : Type} {R R' : α → List Value → Prop} {e : TypeId} {size : Nat} {w w1 : World} {base : Nat} {v : Value} {ps : List α}
theorem OwnRow.none_ (R : α → List Value → Prop) (e : TypeId) (size : Nat) (w : World) (base : Nat) : OwnRow R e size w base (.slice none 0 0) [] := ⟨[], own_nil _ _ _ _, Reps.none _ _⟩
theorem OwnRow.imp_ (h : OwnRow R e size w base v ps) (hR : ∀ p c, R p c → R' p c) : OwnRow R' e size w base v ps := by
  obtain ⟨inner, ho, hr⟩ := h
  exact ⟨inner, ho, hr.imp_ hR⟩
theorem OwnRow.below (h : OwnRow R e size w base v ps) (hb : Below w.heap.size w w1) : OwnRow R e size w1 base v ps := by
  obtain ⟨inner, ho, hr⟩ := h
  exact ⟨inner, pw_own_below ho hb, hr⟩
theorem OwnRow.reads (h : OwnRow R e size w base v ps) : ∃ A c, v = .slice A ps.length c ∧ ps.length ≤ c ∧ ReadsRow R size w A ps.length ps := by
  obtain ⟨inner, ho, hr⟩ := h
  obtain ⟨A, c, rfl, hrow⟩ := own_reads_row ho hr rfl
  exact ⟨A, c, rfl, own_le ho, hrow⟩
theorem OwnRow.lit (W : World) (base : Nat) {inner : List Value} (hr : Reps R size ps inner) (hb : base ≤ W.heap.size) (hm : ps.length ≤ 9223372036854775807) :
    OwnRow R e size (W.alloc (.cells inner.toArray e)) base (.slice (some ⟨W.heap.size, 0, none⟩) ps.length ps.length) ps := by
  have h := World.ownsRow_lit (base := base) (e := e) (size := size) W inner.toArray ps.length hb (by simpa [maxLen] using hm) (by simpa using hr.1)
  exact ⟨inner, by simpa using h, hr⟩
end
section
variable {P : Program} {ops : Array Oper} {rest : List Oper} {o : Oper} {a : Act} {Q : Exit → Act → World → Prop} {α : Type} {R : α → List Value → Prop}
theorem OwnRow.append {w0 W : World} (base : Nat) (hgd : o.guard = none) (s x : Operand) (t e : TypeId) (z : Value) (size bytes : Nat)
    (ho : o.op = .call { callee := .builtin .append, args := #[s, x], argTypes := #[t, t] })
    (ht : P.underlying t = some (.slice e)) (hinfo : (P.info? e).map (fun i => (i.zero, i.size, i.bytes)) = some (some z, size, bytes)) (hz : z.cells.size = size) (hs0 : 0 < size) (hb0 : 0 < bytes)
    (v : Value) (ps : List α) (p : α) (cs : List Value) (hs : a.eval s = v) (hx : a.eval x = .slice (some ⟨W.heap.size, 0, none⟩) 1 1) (hp : R p cs) (hcs : cs.length = size) (h1 : ∀ u ∈ cs, u.oneCell' = true)
    (HO : OwnRow R e size W base v ps) (HB : Below base w0 W) (hbase : base ≤ W.heap.size) (hl : (ps.length + 1) * bytes ≤ 140737488355328)
    (h : ∀ v1 w1, OwnRow R e size w1 base v1 (ps ++ [p]) → Below base w0 w1 → W.grownBy w1 v.ownBlock → (v1.ownBlock = v.ownBlock ∨ ∃ b, v1.ownBlock = some b ∧ W.heap.size ≤ b) → wpList P ops Q rest (a.put o.dst v1) w1) :
    wpList P ops Q (o :: rest) a (W.alloc (.cells cs.toArray e)) := by
  obtain ⟨inner, hown, hr⟩ := HO
  refine print_append_cells base hgd s x t e z size bytes ho ht hinfo hz hs0 hb0 v ps.length inner cs hs hx hcs h1 hown HB hbase hl ?_
  intro v1 w1 hown1 hb1 hg1 hat1
  exact h v1 w1 ⟨inner ++ cs, by rw [List.length_append, List.length_singleton]; exact hown1, hr.snoc hp hcs⟩ hb1 hg1 hat1
end
section
variable {P : Program} {ops : Array Oper} {o : Oper} {a : Act} {Q : Exit → Act → World → Prop} {K : Act → World → Prop} {α : Type} {R : α → List Value → Prop}
end
theorem ReadsRow.inner_ {α : Type} {R : α → List Value → Prop} {size : Nat} {w : World} {ad : Addr} {n : Nat} {ps : List α} (h : ReadsRow R size w (some ad) n ps) :
    ∃ inner, Reps R size ps inner ∧ ∀ j u, inner[j]? = some u → w.cell? (ad.add j) = some u := by
  have key : ∀ m, m ≤ ps.length → ∃ inner, Reps R size (ps.take m) inner ∧ ∀ j u, inner[j]? = some u → w.cell? (ad.add j) = some u := by
    intro m
    induction m with
    | zero => exact fun _ => ⟨[], Reps.none _ _, fun j u hu => by simp at hu⟩
    | succ m ih =>
      intro hm
      obtain ⟨inner, hr, hc⟩ := ih (by omega)
      obtain ⟨ad', he, hcell⟩ := h.2.2 (by have := h.1; omega)
      injection he with he
      subst he
      obtain ⟨c, hcl, hp, hcc⟩ := hcell m _ (List.getElem?_eq_getElem (show m < ps.length by omega))
      refine ⟨inner ++ c, ?_, fun j u hu => ?_⟩
      · rw [List.take_succ_eq_append_getElem (show m < ps.length by omega)]
        exact hr.snoc hp hcl
      · have hil : inner.length = m * size := by rw [hr.1, List.length_take, Nat.min_eq_left (by omega)]
        rcases Nat.lt_or_ge j inner.length with hj | hj
        · rw [List.getElem?_append_left hj] at hu
          exact hc j u hu
        · rw [List.getElem?_append_right hj] at hu
          have := hcc (j - inner.length) u hu
          rwa [hil, Nat.add_sub_cancel' (by omega)] at this
  obtain ⟨inner, hr, hc⟩ := key ps.length (Nat.le_refl _)
  rw [List.take_length] at hr
  exact ⟨inner, hr, hc⟩
section
variable {α : Type} {P : Program}
theorem ReadsOf.len_ {enc : α → Value} {d : α} {w : World} {A : Option Addr} {n : Nat} {xs : List α} (h : ReadsOf enc d w A n xs) : ReadsOf enc d w A xs.length xs := by rw [h.1]; exact h
end
section
variable {P : Program} {ops : Array Oper} {rest : List Oper} {o : Oper} {a : Act} {Q : Exit → Act → World → Prop}
end
structure Kd (α : Type) where
  sz : Nat
  E : List Nat
  K : World → α → List Value → Prop
  M : World → Nat → (Nat → Prop) → α → List Value → Prop
  K_len : ∀ {w x cs}, K w x cs → cs.length = sz
  K_one : ∀ {w x cs}, K w x cs → ∀ u ∈ cs, u.oneCell' = true
  K_below : ∀ {w w1 : World} {x cs}, Below w.heap.size w w1 → K w x cs → K w1 x cs
  K_of_M : ∀ {w base ok x cs}, M w base ok x cs → K w x cs
  M_mono : ∀ {w base ok ok' x cs}, (∀ k, ok k → ok' k) → M w base ok x cs → M w base ok' x cs
  M_bound : ∀ {w : World} {base ok x cs}, M w base ok x cs → M w base (fun k => ok k ∧ base ≤ k ∧ k < w.heap.size ∧ ∃ q, q ∈ E ∧ ∃ cells, w.heap[k]? = some (.cells cells q (0, 0))) x cs
  M_move : ∀ {w w1 : World} {base ok x cs}, (∀ k, ok k → w1.heap[k]? = w.heap[k]?) → M w base ok x cs → M w1 base ok x cs
  M_lower : ∀ {w base base' ok x cs}, base' ≤ base → M w base ok x cs → M w base' ok x cs
theorem own_move {w w1 : World} {base : Nat} {e : TypeId} {size n : Nat} {v : Value} {xs : List Value} (h : w.ownsRow base e size v n xs) (hm : ∀ k, v.ownBlock = some k → w1.heap[k]? = w.heap[k]?) : w1.ownsRow base e size v n xs := by
  obtain ⟨h1, h2⟩ := h
  refine ⟨h1, ?_⟩
  rcases h2 with h2 | ⟨g, cap, cur, rfl, hg, hh, r⟩
  · exact .inl h2
  · exact .inr ⟨g, cap, cur, rfl, hg, (hm g (by simp [Value.ownBlock])).trans hh, r⟩
theorem own_typed {w : World} {base : Nat} {e : TypeId} {size n : Nat} {v : Value} {xs : List Value} (h : w.ownsRow base e size v n xs) (k : Nat) (hk : v.ownBlock = some k) : ∃ cells, w.heap[k]? = some (.cells cells e (0, 0)) := by
  rcases h.2 with ⟨rfl, _⟩ | ⟨g, cap, cur, rfl, hg, hh, r⟩
  · simp [Value.ownBlock] at hk
  · have : g = k := by simpa [Value.ownBlock] using hk
    subst this
    exact ⟨cur, hh⟩
namespace Kd
def C {α : Type} (d : Kd α) (w : World) (A : Option Addr) (n : Nat) (xs : List α) : Prop := ReadsRow (d.K w) d.sz w A n xs
def R {α : Type} (d : Kd α) (e : Nat) (w : World) (base : Nat) (ok : Nat → Prop) (v : Value) (xs : List α) : Prop :=
  (∀ k, v.ownBlock = some k → ok k) ∧ OwnRow (d.M w base (fun k => ok k ∧ some k ≠ v.ownBlock)) e d.sz w base v xs
section
variable {α : Type} {d : Kd α} {e : Nat} {w w1 : World} {base : Nat} {ok ok' : Nat → Prop} {v : Value} {xs : List α}
theorem C_below {A : Option Addr} {n : Nat} (h : d.C w A n xs) (hb : Below w.heap.size w w1) : d.C w1 A n xs := ReadsRow.imp_ h hb (fun _ _ hp => d.K_below hb hp)
theorem R_nil (d : Kd α) (e : Nat) (w : World) (base : Nat) (ok : Nat → Prop) : d.R e w base ok (.slice none 0 0) [] := ⟨fun k hk => by simp [Value.ownBlock] at hk, OwnRow.none_ _ _ _ _ _⟩
theorem R_mono (h : d.R e w base ok v xs) (hok : ∀ k, ok k → ok' k) : d.R e w base ok' v xs := ⟨fun k hk => hok k (h.1 k hk), h.2.imp_ (fun _ _ hp => d.M_mono (fun k hk => ⟨hok k hk.1, hk.2⟩) hp)⟩
theorem R_bound (h : d.R e w base ok v xs) : d.R e w base (fun k => ok k ∧ base ≤ k ∧ k < w.heap.size ∧ ∃ q, q ∈ e :: d.E ∧ ∃ cells, w.heap[k]? = some (.cells cells q (0, 0))) v xs := by
  obtain ⟨h0, inner, ho, hr⟩ := h
  refine ⟨fun k hk => ?_, inner, ho, hr.imp_ (fun _ _ hp => d.M_mono (fun k hk => ?_) (d.M_bound hp))⟩
  · obtain ⟨cells, hc⟩ := own_typed ho k hk
    exact ⟨h0 k hk, own_base ho k hk, own_lt ho k hk, e, List.mem_cons_self, cells, hc⟩
  · obtain ⟨⟨h1, h2⟩, h3, h4, q, hq, hc⟩ := hk
    exact ⟨⟨h1, h3, h4, q, List.mem_cons_of_mem _ hq, hc⟩, h2⟩
theorem R_move (h : d.R e w base ok v xs) (hm : ∀ k, ok k → w1.heap[k]? = w.heap[k]?) : d.R e w1 base ok v xs := by
  obtain ⟨h0, inner, ho, hr⟩ := h
  exact ⟨h0, inner, own_move ho (fun k hk => hm k (h0 k hk)), hr.imp_ (fun _ _ hp => d.M_move (fun k hk => hm k hk.1) hp)⟩
theorem R_lower {base' : Nat} (h : d.R e w base ok v xs) (hb : base' ≤ base) : d.R e w base' ok v xs := by
  obtain ⟨h0, inner, ho, hr⟩ := h
  exact ⟨h0, inner, own_weaken ho hb, hr.imp_ (fun _ _ hp => d.M_lower hb hp)⟩
theorem R_step (h : d.R e w base ok v xs) (hm : ∀ k, ok k → k < w.heap.size → w1.heap[k]? = w.heap[k]?) : d.R e w1 base ok v xs :=
  R_mono (R_move (R_bound h) (fun k hk => hm k hk.1 hk.2.2.1)) (fun _ hk => hk.1)
theorem M_step {x : α} {cs : List Value} (h : d.M w base ok x cs) (hm : ∀ k, ok k → k < w.heap.size → w1.heap[k]? = w.heap[k]?) : d.M w1 base ok x cs :=
  d.M_mono (fun _ hk => hk.1) (d.M_move (fun k hk => hm k hk.1 hk.2.2.1) (d.M_bound h))
theorem R_below (h : d.R e w base ok v xs) (hb : Below w.heap.size w w1) : d.R e w1 base ok v xs := R_step h (fun k _ hk => hb.block k hk)
theorem M_below {x : α} {cs : List Value} (h : d.M w base ok x cs) (hb : Below w.heap.size w w1) : d.M w1 base ok x cs := M_step h (fun k _ hk => hb.block k hk)
theorem R_reads (h : d.R e w base ok v xs) : ∃ A c, v = .slice A xs.length c ∧ xs.length ≤ c ∧ d.C w A xs.length xs := by
  obtain ⟨A, c, he, hl, hr⟩ := OwnRow.reads h.2
  exact ⟨A, c, he, hl, hr.imp_ (Below.refl _ _) (fun _ _ hp => d.K_of_M hp)⟩
theorem R_slice (h : d.R e w base ok v xs) : ∃ A c, v = .slice A xs.length c := by
  obtain ⟨A, c, he, _⟩ := R_reads h
  exact ⟨A, c, he⟩
theorem R_own (h : d.R e w base ok v xs) : ∃ inner, w.ownsRow base e d.sz v xs.length inner := by
  obtain ⟨_, inner, ho, _⟩ := h
  exact ⟨inner, ho⟩
end
def scalar {α : Type} (enc : α → Value) (h1 : ∀ x, (enc x).oneCell' = true) : Kd α where
  sz := 1
  E := []
  K := fun _ x cs => cs = [enc x]
  M := fun _ _ _ x cs => cs = [enc x]
  K_len := fun h => by rw [h]; rfl
  K_one := fun h u hu => by
    rw [h] at hu
    rw [List.mem_singleton.1 hu]
    exact h1 _
  K_below := fun _ h => h
  K_of_M := fun h => h
  M_mono := fun _ h => h
  M_bound := fun h => h
  M_move := fun _ h => h
  M_lower := fun _ h => h
def int (k : IntKind) : Kd Int := scalar (Value.int k) (fun _ => rfl)
def bool : Kd Bool := scalar Value.bool (fun _ => rfl)
def string : Kd ByteArray := scalar Value.string (fun _ => rfl)
def slice {α : Type} (e : Nat) (d : Kd α) : Kd (List α) where
  sz := 1
  E := e :: d.E
  K := fun w xs cs => ∃ A c, cs = [.slice A xs.length c] ∧ xs.length ≤ c ∧ d.C w A xs.length xs
  M := fun w base ok xs cs => ∃ v, cs = [v] ∧ d.R e w base ok v xs
  K_len := by
    rintro w x cs ⟨A, c, rfl, _⟩
    rfl
  K_one := by
    rintro w x cs ⟨A, c, rfl, _⟩ u hu
    rw [List.mem_singleton.1 hu]
    rfl
  K_below := by
    rintro w w1 x cs hb ⟨A, c, rfl, hl, hr⟩
    exact ⟨A, c, rfl, hl, C_below hr hb⟩
  K_of_M := by
    rintro w base ok x cs ⟨v, rfl, h⟩
    obtain ⟨A, c, rfl, hl, hr⟩ := R_reads h
    exact ⟨A, c, rfl, hl, hr⟩
  M_mono := by
    rintro w base ok ok' x cs hok ⟨v, rfl, h⟩
    exact ⟨v, rfl, R_mono h hok⟩
  M_bound := by
    rintro w base ok x cs ⟨v, rfl, h⟩
    exact ⟨v, rfl, R_bound h⟩
  M_move := by
    rintro w w1 base ok x cs hm ⟨v, rfl, h⟩
    exact ⟨v, rfl, R_move h hm⟩
  M_lower := by
    rintro w base base' ok x cs hb ⟨v, rfl, h⟩
    exact ⟨v, rfl, R_lower h hb⟩
def pair {α β : Type} (a : Kd α) (b : Kd β) : Kd (α × β) where
  sz := a.sz + b.sz
  E := a.E ++ b.E
  K := fun w x cs => ∃ c0 c1, cs = c0 ++ c1 ∧ a.K w x.1 c0 ∧ b.K w x.2 c1
  M := fun w base ok x cs => ∃ c0 c1, cs = c0 ++ c1 ∧ a.M w base ok x.1 c0 ∧ b.M w base ok x.2 c1
  K_len := by
    rintro w x cs ⟨c0, c1, rfl, h0, h1⟩
    rw [List.length_append, a.K_len h0, b.K_len h1]
  K_one := by
    rintro w x cs ⟨c0, c1, rfl, h0, h1⟩ u hu
    rcases List.mem_append.1 hu with hu | hu
    · exact a.K_one h0 u hu
    · exact b.K_one h1 u hu
  K_below := by
    rintro w w1 x cs hb ⟨c0, c1, rfl, h0, h1⟩
    exact ⟨c0, c1, rfl, a.K_below hb h0, b.K_below hb h1⟩
  K_of_M := by
    rintro w base ok x cs ⟨c0, c1, rfl, h0, h1⟩
    exact ⟨c0, c1, rfl, a.K_of_M h0, b.K_of_M h1⟩
  M_mono := by
    rintro w base ok ok' x cs hok ⟨c0, c1, rfl, h0, h1⟩
    exact ⟨c0, c1, rfl, a.M_mono hok h0, b.M_mono hok h1⟩
  M_bound := by
    rintro w base ok x cs ⟨c0, c1, rfl, h0, h1⟩
    refine ⟨c0, c1, rfl, a.M_mono ?_ (a.M_bound h0), b.M_mono ?_ (b.M_bound h1)⟩
    · rintro k ⟨h2, h3, h4, q, hq, hc⟩
      exact ⟨h2, h3, h4, q, List.mem_append_left _ hq, hc⟩
    · rintro k ⟨h2, h3, h4, q, hq, hc⟩
      exact ⟨h2, h3, h4, q, List.mem_append_right _ hq, hc⟩
  M_move := by
    rintro w w1 base ok x cs hm ⟨c0, c1, rfl, h0, h1⟩
    exact ⟨c0, c1, rfl, a.M_move hm h0, b.M_move hm h1⟩
  M_lower := by
    rintro w base base' ok x cs hb ⟨c0, c1, rfl, h0, h1⟩
    exact ⟨c0, c1, rfl, a.M_lower hb h0, b.M_lower hb h1⟩
def bot {α : Type} (sz : Nat) (E : List Nat) : Kd α where
  sz := sz
  E := E
  K := fun _ _ _ => False
  M := fun _ _ _ _ _ => False
  K_len := fun h => h.elim
  K_one := fun h => h.elim
  K_below := fun _ h => h
  K_of_M := fun h => h
  M_mono := fun _ h => h
  M_bound := fun h => h
  M_move := fun _ h => h
  M_lower := fun _ h => h
def upto {α : Type} (F : Kd α → Kd α) (sz : Nat) (E : List Nat) : Nat → Kd α
  | 0 => bot sz E
  | n + 1 => F (upto F sz E n)
theorem C_get {α : Type} {d : Kd α} {w : World} {A : Option Addr} {n : Nat} {xs : List α} (h : d.C w A n xs) (z : α) (i : Int) (h0 : 0 ≤ i) (h1 : i < n) :
    ∃ ad c, A = some ad ∧ c.length = d.sz ∧ d.K w (xs.getD i.toNat z) c ∧ ∀ j u, c[j]? = some u → w.cell? (ad.add (i.toNat * d.sz + j)) = some u := ReadsRow.get_ h z i h0 h1
section
variable {P : Program} {ops : Array Oper} {rest : List Oper} {o : Oper} {a : Act} {Q : Exit → Act → World → Prop} {α : Type}
end
section
variable {P : Program} {ops : Array Oper} {o : Oper} {a : Act} {Q : Exit → Act → World → Prop} {Kc : Act → World → Prop} {α : Type}
end
theorem reps_scalar {α : Type} {enc : α → Value} (xs : List α) : Reps (fun (x : α) (cs : List Value) => cs = [enc x]) 1 xs (encs enc xs) := by
  refine ⟨by simp [encs], fun j p hj => ?_⟩
  obtain ⟨hl, hp⟩ := List.getElem?_eq_some_iff.1 hj
  have hl' : j < (encs enc xs).length := by rw [encs_length]; exact hl
  rw [Nat.mul_one, List.drop_eq_getElem_cons hl']
  simp [encs, hp]
theorem R_of_own {α : Type} {enc : α → Value} {h1 : ∀ x, (enc x).oneCell' = true} {e : Nat} {w : World} {base : Nat} {ok : Nat → Prop} {v : Value} {xs : List α} (ho : w.ownsRow base e 1 v xs.length (encs enc xs)) (hok : ∀ k, v.ownBlock = some k → ok k) : (scalar enc h1).R e w base ok v xs := ⟨hok, encs enc xs, ho, reps_scalar xs⟩
theorem own_of_R {α : Type} {enc : α → Value} {h1 : ∀ x, (enc x).oneCell' = true} {e : Nat} {w : World} {base : Nat} {ok : Nat → Prop} {v : Value} {xs : List α} (h : (scalar enc h1).R e w base ok v xs) : w.ownsRow base e 1 v xs.length (encs enc xs) := by
  obtain ⟨_, inner, ho, hr⟩ := h
  have : inner = encs enc xs := by
    apply List.ext_getElem?
    intro j
    rcases Nat.lt_or_ge j xs.length with hj | hj
    · have h2 := hr.2 j _ (List.getElem?_eq_getElem hj)
      have hl : j < inner.length := by have := hr.1; simp [scalar] at this; omega
      have h3 : (inner.drop (j * 1)).take 1 = [enc xs[j]] := h2
      rw [Nat.mul_one, List.drop_eq_getElem_cons hl] at h3
      have h4 : inner[j] = enc xs[j] := by
        have h5 := congrArg List.head? h3
        rw [List.take_succ_cons] at h5
        exact Option.some.inj h5
      rw [List.getElem?_eq_getElem hl, h4]
      simp [encs, List.getElem?_eq_getElem hj]
    · have h3 : inner.length = xs.length := by have := hr.1; simp [scalar] at this; omega
      rw [List.getElem?_eq_none (by omega), List.getElem?_eq_none (by rw [encs_length]; omega)]
  rw [← this]
  exact ho
theorem reads_of_C {α : Type} {enc : α → Value} {d : α} {h1 : ∀ x, (enc x).oneCell' = true} {w : World} {A : Option Addr} {n : Nat} {xs : List α} (h : (scalar enc h1).C w A n xs) : ReadsOf enc d w A n xs := by
  refine ⟨h.1, h.2.1, fun hn => ?_⟩
  obtain ⟨ad, e, hc⟩ := h.2.2 hn
  refine ⟨ad, e, fun j hj => ?_⟩
  have hl : j < xs.length := by have := h.1; omega
  obtain ⟨c, _, hK, hcell⟩ := hc j _ (List.getElem?_eq_getElem hl)
  have hK' : c = [enc xs[j]] := hK
  subst hK'
  have := hcell 0 _ rfl
  simpa [scalar, List.getD_eq_getElem?_getD, List.getElem?_eq_getElem hl] using this
end Kd
namespace Kd
section
variable {α : Type} {F : Kd α → Kd α} {sz : Nat} {E : List Nat} {hs : ∀ n, (upto F sz E n).sz = sz} {hE : ∀ n q, q ∈ (upto F sz E n).E → q ∈ E}
end
end Kd
namespace Kd
end Kd
namespace Kd
section
variable {α β : Type} {d : Kd α} {d' : Kd β} {e e' : Nat} {w w1 W : World} {base b b' : Nat} {ok ok' okv oku : Nat → Prop} {v u : Value} {xs : List α} {ys : List β}
theorem C_drew {A : Option Addr} {n : Nat} (h : d.C w A n xs) : d.C w.drew A n xs := C_below h (below_drew (Below.refl _ _))
theorem C_nil (d : Kd α) (w : World) : d.C w none ([] : List α).length [] := ⟨rfl, by simp, fun h => absurd h (Nat.lt_irrefl 0)⟩
theorem R_reads' {A : Option Addr} {n c : Nat} (h : d.R e w base ok (.slice A n c) xs) : n = xs.length ∧ n ≤ c ∧ d.C w A xs.length xs := by
  obtain ⟨A', c', he, hl, hr⟩ := R_reads h
  injection he with h1 h2 h3
  subst h1
  exact ⟨h2, by omega, hr⟩
end
section
variable {w W : World} {A : Option Addr} {n : Nat}
theorem at_string {xs : List ByteArray} (h : Kd.string.C w A n xs) (i : Int) (h0 : 0 ≤ i) (h1 : i < n) : ∃ ad, A = some ad ∧ w.cell? (ad.add i.toNat) = some (.string (rdOf ByteArray.empty xs i)) :=
  ReadsOf.at_ (reads_of_C (enc := Value.string) (d := ByteArray.empty) (h1 := fun _ => rfl) h) i h0 h1
variable {α : Type} {enc : α → Value} {h1 : ∀ x, (enc x).oneCell' = true} {e base g cap : Nat} {ok : Nat → Prop} {xs : List α}
theorem R_put (h : (scalar enc h1).R e W base ok (.slice (some ⟨g, 0, none⟩) xs.length cap) xs) (i : Int) (x : α) : (scalar enc h1).R e (W.setCell ⟨g, i.toNat, none⟩ (enc x)) base ok (.slice (some ⟨g, 0, none⟩) xs.length cap) (xs.set i.toNat x) ∧ W.grownBy (W.setCell ⟨g, i.toNat, none⟩ (enc x)) (some g) := by
  obtain ⟨ho, hg⟩ := own_store_of (own_of_R h) i x
  exact ⟨R_of_own (by rw [List.length_set]; exact ho) h.1, hg⟩
end
section
variable {P : Program} {ops : Array Oper} {rest : List Oper} {o : Oper} {a : Act} {Q : Exit → Act → World → Prop}
theorem event_run {W w1 : World} {v : Value} (hgd : o.guard = none) (hrun : (execOp a.eval o).run P W = .ok (.value v) w1) (h : wpList P ops Q rest (a.put o.dst v) w1) : wpList P ops Q (o :: rest) a W := by
  refine wpList_plain hgd fun K hK => ?_
  unfold Oper.wp
  rw [hrun]
  exact hK _ _ h
variable {α : Type}
theorem R_lit (d : Kd α) {w0 W : World} (base e : Nat) (hgd : o.guard = none) {N : Tmp} (_hd : o.dst = some N) {xs : List α} {inner : List Value} {ok okp : Nat → Prop}
    (hrun : (execOp a.eval o).run P W = .ok (.value (.slice (some ⟨W.heap.size, 0, none⟩) xs.length xs.length)) (W.alloc (.cells inner.toArray e)))
    (hrep : Reps (d.M W base okp) d.sz xs inner) (hok : ∀ k, okp k → ok k) (hfresh : ok W.heap.size) (HB : Below base w0 W) (hbase : base ≤ W.heap.size) (hm : xs.length ≤ 9223372036854775807)
    (h : ∀ v1 w1, d.R e w1 base ok v1 xs → Below base w0 w1 → W.grownBy w1 none → (∃ b, v1.ownBlock = some b ∧ W.heap.size ≤ b) → wpList P ops Q rest (a.put o.dst v1) w1) : wpList P ops Q (o :: rest) a W := by
  refine event_run hgd hrun (h _ _ ⟨fun k hk => ?_, inner, ?_, ?_⟩ (HB.alloc hbase _) (World.grownBy_alloc W _ none) ⟨W.heap.size, by simp [Value.ownBlock], Nat.le_refl _⟩)
  · have : W.heap.size = k := by simpa [Value.ownBlock] using hk
    subst this
    exact hfresh
  · have h2 := World.ownsRow_lit (base := base) (e := e) (size := d.sz) W inner.toArray xs.length hbase (by simpa [maxLen] using hm) (by simpa using hrep.1)
    simpa using h2
  · refine hrep.imp_ (fun p c hp => d.M_mono (fun k hk => ⟨hok k hk.1, fun he => ?_⟩) (M_below (d.M_bound hp) (below_alloc (Below.refl _ _) _)))
    have h3 : k = W.heap.size := by simpa [Value.ownBlock] using he
    have := hk.2.2.1
    omega
end
end Kd
theorem own_take {w : World} {base n m c size : Nat} {e : TypeId} {A : Option Addr} {xs : List Value} (h : w.ownsRow base e size (.slice A n c) n xs) (hm : m ≤ n) : w.ownsRow base e size (.slice A m c) m (xs.take (m * size)) := by
  obtain ⟨h1, h2⟩ := h
  refine ⟨by rw [List.length_take, h1]; exact Nat.min_eq_left (Nat.mul_le_mul_right _ hm), ?_⟩
  rcases h2 with ⟨he, h0⟩ | ⟨g, cap, cur, he, hb, hh, hnc, hcm, hcs, ht⟩
  · injection he with ha _ hc
    subst ha; subst hc
    exact .inl ⟨by rw [show m = 0 by omega], by omega⟩
  · injection he with ha _ hc
    subst ha; subst hc
    refine .inr ⟨g, c, cur, rfl, hb, hh, by omega, hcm, hcs, ?_⟩
    rw [← ht, List.take_take, Nat.min_eq_left (Nat.mul_le_mul_right _ hm)]
section
variable {P : Program}
end
def QRow (w : World) (base : Nat) (e : TypeId) (size : Nat) (v : Value) (n : Nat) (xs : List Value) : Prop :=
  xs.length = n * size ∧
  ((n = 0 ∧ ∃ A, v = .slice A 0 0 ∧ ∀ a, A = some a → base ≤ a.block ∧ ∃ cur, w.heap[a.block]? = some (.cells cur e (0, 0))) ∨
   ∃ g off cap cur, v = .slice (some ⟨g, off * size, none⟩) n cap ∧ base ≤ g ∧ w.heap[g]? = some (.cells cur e (0, 0)) ∧ n ≤ cap ∧ off + cap ≤ maxLen ∧ cur.size = (off + cap) * size ∧ (cur.toList.drop (off * size)).take (n * size) = xs)
section
variable {w w1 : World} {base n size : Nat} {e : TypeId} {v : Value} {xs : List Value}
theorem add_at (g o j : Nat) : (⟨g, o, none⟩ : Addr).add j = ⟨g, o + j, none⟩ := by unfold Addr.add; split <;> simp_all
end
section
variable {P : Program}
end
namespace Kd
theorem reps_take {α : Type} {R : α → List Value → Prop} {size m : Nat} {ps : List α} {cs : List Value} (h : Reps R size ps cs) (hm : m ≤ ps.length) : Reps R size (ps.take m) (cs.take (m * size)) := by
  refine ⟨by rw [List.length_take, List.length_take, h.1, Nat.min_eq_left hm, Nat.min_eq_left (Nat.mul_le_mul_right _ hm)], fun j p hj => ?_⟩
  rw [List.getElem?_take] at hj
  split at hj
  · rename_i hjm
    have := h.2 j p hj
    have hle : j * size + size ≤ m * size := by rw [← Nat.succ_mul]; exact Nat.mul_le_mul_right _ hjm
    rw [List.drop_take, List.take_take, Nat.min_eq_left (by omega)]
    exact this
  · cases hj
theorem R_take {α : Type} {d : Kd α} {e m n c : Nat} {w : World} {base : Nat} {ok : Nat → Prop} {A : Option Addr} {xs : List α} (h : d.R e w base ok (.slice A n c) xs) (hm : m ≤ xs.length) : d.R e w base ok (.slice A m c) (xs.take m) := by
  obtain ⟨h0, inner, ho, hr⟩ := h
  have hn : n = xs.length := by
    obtain ⟨A', c', he⟩ := own_slice ho
    injection he
  subst hn
  have hb : ∀ x y : Nat, (Value.slice A x c).ownBlock = (Value.slice A y c).ownBlock := by
    intro x y
    cases A <;> rfl
  refine ⟨fun k hk => h0 k (by rw [hb _ m]; exact hk), inner.take (m * d.sz), ?_, ?_⟩
  · rw [List.length_take, Nat.min_eq_left hm]
    exact own_take ho hm
  · rw [hb m xs.length]
    exact reps_take hr hm
def Q {α : Type} (d : Kd α) (e : Nat) (w : World) (base : Nat) (ok : Nat → Prop) (v : Value) (xs : List α) : Prop :=
  (∀ k, v.ownBlock = some k → ok k) ∧ ∃ inner, QRow w base e d.sz v xs.length inner ∧ Reps (d.M w base (fun k => ok k ∧ some k ≠ v.ownBlock)) d.sz xs inner
section
variable {α : Type} {d : Kd α} {e : Nat} {w w1 W : World} {base : Nat} {ok ok' : Nat → Prop} {v : Value} {xs : List α}
end
section
variable {P : Program} {ops : Array Oper} {rest : List Oper} {o : Oper} {a : Act} {Q' : Exit → Act → World → Prop} {Kc : Act → World → Prop} {α : Type}
end
end Kd
namespace Kd
section
variable {α : Type} {d : Kd α} {e e' : Nat} {w w1 W : World} {base : Nat} {ok : Nat → Prop} {u v : Value} {xs : List α}
theorem R_typed (h : d.R e w base ok v xs) : ∀ k, v.ownBlock = some k → ∃ cells, w.heap[k]? = some (.cells cells e (0, 0)) := by
  obtain ⟨inner, ho⟩ := R_own h
  exact fun k hk => own_typed ho k hk
end
end Kd
namespace Kd
section
variable {α : Type} {d : Kd α} {e base g n cap : Nat} {ok okp : Nat → Prop} {W : World} {xs : List α}
end
end Kd
namespace Kd
section
variable {α : Type} {F : Kd α → Kd α} {sz : Nat} {E : List Nat} {hs : ∀ n, (upto F sz E n).sz = sz} {hE : ∀ n q, q ∈ (upto F sz E n).E → q ∈ E}
end
end Kd
namespace Kd
theorem reps_append {α : Type} {R : α → List Value → Prop} {size : Nat} {ps qs : List α} {cs ds : List Value} (h : Reps R size ps cs) (h' : Reps R size qs ds) : Reps R size (ps ++ qs) (cs ++ ds) := by
  refine ⟨by rw [List.length_append, List.length_append, h.1, h'.1, Nat.add_mul], fun j p hj => ?_⟩
  rcases Nat.lt_or_ge j ps.length with hlt | hge
  · rw [List.getElem?_append_left hlt] at hj
    have hle : j * size + size ≤ cs.length := by rw [h.1, ← Nat.succ_mul]; exact Nat.mul_le_mul_right _ hlt
    rw [List.drop_append_of_le_length (by omega), List.take_append_of_le_length (by rw [List.length_drop]; omega)]
    exact h.2 j p hj
  · rw [List.getElem?_append_right hge] at hj
    have h2 := h'.2 (j - ps.length) p hj
    have hle : ps.length * size ≤ j * size := Nat.mul_le_mul_right _ hge
    rw [List.drop_append, List.drop_eq_nil_of_le (by rw [h.1]; exact hle), List.nil_append, h.1, ← Nat.sub_mul]
    exact h2
section
variable {P : Program} {ops : Array Oper} {rest : List Oper} {o : Oper} {a : Act} {Q : Exit → Act → World → Prop} {α : Type}
theorem R_append_rows (d : Kd α) {Rr : α → List Value → Prop} {w0 W : World} (base : Nat) (hgd : o.guard = none) (s x : Operand) (t e : TypeId) (z : Value) (bytes : Nat)
    (ho : o.op = .call { callee := .builtin .append, args := #[s, x], argTypes := #[t, t] })
    (ht : P.underlying t = some (.slice e)) (hinfo : (P.info? e).map (fun i => (i.zero, i.size, i.bytes)) = some (some z, d.sz, bytes)) (hz : z.cells.size = d.sz) (hs0 : 0 < d.sz) (hb0 : 0 < bytes)
    (v : Value) (xs ys : List α) (A : Option Addr) (m c : Nat) (ok okp : Nat → Prop) (hs : a.eval s = v) (hx : a.eval x = .slice A m c)
    (HO : d.R e W base ok v xs) (HR : ReadsRow Rr d.sz W A m ys) (hKM : ∀ x cs, Rr x cs → d.M W base okp x cs) (hokp : ∀ k, okp k → ok k ∧ some k ≠ v.ownBlock) (hfresh : ∀ k, W.heap.size ≤ k → ok k)
    (HB : Below base w0 W) (hbase : base ≤ W.heap.size) (hl : (xs.length + m) * bytes ≤ 140737488355328)
    (h : ∀ v1 w1, d.R e w1 base ok v1 (xs ++ ys) → Below base w0 w1 → W.grownBy w1 v.ownBlock → (v1.ownBlock = v.ownBlock ∨ ∃ b, v1.ownBlock = some b ∧ W.heap.size ≤ b) → wpList P ops Q rest (a.put o.dst v1) w1) :
    wpList P ops Q (o :: rest) a W := by
  obtain ⟨i0, hi, hzz⟩ := Option.map_eq_some_iff.1 hinfo
  simp only [Prod.mk.injEq] at hzz
  obtain ⟨hz0, hz1, hz2⟩ := hzz
  have hm : ys.length = m := HR.1
  have hlen : xs.length + m ≤ 140737488355328 := Nat.le_trans (Nat.le_mul_of_pos_right _ hb0) hl
  obtain ⟨hok, inner, hown, hr⟩ := HO
  have hrun : ∃ v1 w1, (Builtin.append_ #[t, t] o.type #[v, .slice A m c]).run P W = .ok v1 w1 ∧ d.R e w1 base ok v1 (xs ++ ys) ∧ W.grownBy w1 v.ownBlock ∧ (v1.ownBlock = v.ownBlock ∨ ∃ b, v1.ownBlock = some b ∧ W.heap.size ≤ b) := by
    rcases A with _ | ad
    · have h0 : m = 0 := by
        rcases Nat.eq_zero_or_pos m with h0 | h0
        · exact h0
        · obtain ⟨ad, h, _⟩ := HR.2.2 h0
          cases h
      subst h0
      obtain rfl : ys = [] := List.eq_nil_of_length_eq_zero hm
      refine ⟨v, W, ?_, by rw [List.append_nil]; exact ⟨hok, inner, hown, hr⟩, World.grownBy.refl W _, .inl rfl⟩
      rcases hown.2 with ⟨rfl, hn⟩ | ⟨g, cap, cur, rfl, _, _, hnc, _⟩
      · simp [Builtin.append_, run_underlying ht, sizeOf, typeInfo, hi, Builtin.lenOf, Builtin.firstCells]
      · simp [Builtin.append_, run_underlying ht, sizeOf, typeInfo, hi, Builtin.lenOf, Builtin.firstCells, hnc, storeCells]
    · obtain ⟨news, hnr, hnc⟩ := ReadsRow.inner_ HR
      have hnM : Reps (d.M W base okp) d.sz ys news := hnr.imp_ (fun p c hp => hKM p c hp)
      have hone : ∀ u ∈ news, u.oneCell' = true := by
        intro u hu
        obtain ⟨q, hq, rfl⟩ := List.mem_iff_getElem.1 hu
        have hql : q / d.sz < ys.length := by
          rw [Nat.div_lt_iff_lt_mul hs0]
          rw [← hnM.1]
          exact hq
        have hc := hnM.2 (q / d.sz) _ (List.getElem?_eq_getElem hql)
        refine d.K_one (d.K_of_M hc) _ ?_
        rw [List.mem_iff_getElem?]
        refine ⟨q % d.sz, ?_⟩
        rw [List.getElem?_take, if_pos (Nat.mod_lt _ hs0), List.getElem?_drop, Nat.mul_comm, Nat.div_add_mod, List.getElem?_eq_getElem hq]
      obtain ⟨v1, w1, hrun, h2, hg, _, hat⟩ := run_append_own_at (P := P) W base t o.type e i0 z d.sz bytes ht hi hz0 hz1 hz2 hz hs0 v xs.length inner hown ad m c news (by rw [hnM.1, hm]) hnc hone (by simp only [maxLen]; omega) hl hbase
      have hat' : v1.ownBlock = v.ownBlock ∨ ∃ b, v1.ownBlock = some b ∧ W.heap.size ≤ b := by
        rcases hat with hat | hat
        · exact .inl hat
        · exact .inr ⟨_, hat, Nat.le_refl _⟩
      have hne : ∀ k, some k ≠ v.ownBlock → k < W.heap.size → some k ≠ v1.ownBlock := by
        intro k hk hlt
        rcases hat' with hat | ⟨b, hb, hle⟩
        · rw [hat]; exact hk
        · rw [hb]
          intro he
          injection he with he
          omega
      have step : ∀ {q : α} {c : List Value} {o : Nat → Prop}, d.M W base o q c → (∀ k, o k → ok k ∧ some k ≠ v.ownBlock) → d.M w1 base (fun k => ok k ∧ some k ≠ v1.ownBlock) q c := by
        intro q c o hq ho
        have h1 := d.M_move (w1 := w1) (fun k hk => hg.block k hk.2.2.1 (ho k hk.1).2) (d.M_bound hq)
        exact d.M_mono (fun k hk => ⟨(ho k hk.1).1, hne k (ho k hk.1).2 hk.2.2.1⟩) h1
      refine ⟨v1, w1, hrun, ⟨fun k hk => ?_, inner ++ news, by rw [List.length_append, hm]; exact h2, reps_append (hr.imp_ (fun _ _ hq => step hq (fun _ hk => hk))) (hnM.imp_ (fun _ _ hq => step hq hokp))⟩, hg, hat'⟩
      rcases hat' with hat | ⟨b, hb, hle⟩
      · exact hok k (hat ▸ hk)
      · rw [hb] at hk
        injection hk with hk
        exact hfresh k (by omega)
  obtain ⟨v1, w1, hr1, h1, hg, hat⟩ := hrun
  refine wpList_plain hgd fun K hK => ?_
  unfold Oper.wp execOp
  simp only [ho, resolve, invoke, builtin, Sem.run_bind, Sem.run_pure, Result.andThen_ok, List.map_toArray, List.map_cons, List.map_nil, hs, hx, hr1]
  exact hK _ _ (h v1 w1 h1 (HB.grown hg hbase (own_base hown)) hg hat)
end
end Kd
namespace Kd
section
variable {P : Program} {ops : Array Oper} {rest : List Oper} {o : Oper} {a : Act} {Q : Exit → Act → World → Prop} {α : Type}
end
end Kd
theorem add_add (a : Addr) (i j : Nat) : (a.add i).add j = a.add (i + j) := by
  unfold Addr.add
  by_cases h1 : i = 0 <;> by_cases h2 : j = 0 <;> simp [h1, h2, Nat.add_assoc]
namespace Kd
section
variable {α : Type} {k : Kd α} {w : World} {A : Option Addr} {xs : List α} {m c : Nat}
theorem C_drop (h : k.C w A xs.length xs) (hm : m ≤ xs.length) (hc : xs.length ≤ c) : k.C w (if c = m then A else A.map (·.add (m * k.sz))) (xs.drop m).length (xs.drop m) := by
  have hl : (xs.drop m).length = xs.length - m := List.length_drop
  refine ⟨rfl, by rw [hl]; have := h.2.1; omega, fun hp => ?_⟩
  rw [hl] at hp
  obtain ⟨ad, rfl, hcell⟩ := h.2.2 (by omega)
  rw [if_neg (by omega)]
  refine ⟨ad.add (m * k.sz), rfl, fun j p hj => ?_⟩
  rw [List.getElem?_drop] at hj
  obtain ⟨cs, h1, h2, h3⟩ := hcell (m + j) p hj
  refine ⟨cs, h1, h2, fun i u hu => ?_⟩
  rw [add_add, show m * k.sz + (j * k.sz + i) = (m + j) * k.sz + i by rw [Nat.add_mul]; omega]
  exact h3 i u hu
end
end Kd
section
variable {P : Program}
end
theorem string_of_reads {P : Program} {w : World} {src dst e : TypeId} {A : Option Addr} {n c : Nat} {xs : List Int} (hs : P.underlying src = some (.slice e)) (he : P.underlying e = some (.int .u8)) (hd : P.underlying dst = some .string)
    (h : ReadsInt w .u8 A n xs) : (convert src dst (.slice A n c)).run P w = .ok (.string (strOfNums xs)) w := by
  have hn : xs.length = n := h.1
  rcases A with _ | ad
  · have h0 : n = 0 := by
      rcases Nat.eq_zero_or_pos n with h0 | h0
      · exact h0
      · obtain ⟨ad, h', _⟩ := h.2.2 h0
        cases h'
    subst h0
    obtain rfl : xs = [] := List.eq_nil_of_length_eq_zero hn
    exact run_convert_bytes_nil w src e hs he 0 c dst hd
  · have hl : (loadCells ad n).run P w = .ok (xs.map (Value.int .u8)).toArray w := by
      have := run_loadCells_list (P := P) w ad (xs.map (Value.int .u8)) (fun j v hj => by
        have hjl : j < xs.length := by
          rcases Nat.lt_or_ge j xs.length with h' | h'
          · exact h'
          · rw [List.getElem?_eq_none (by rw [List.length_map]; exact h')] at hj
            cases hj
        obtain ⟨ad', he', hc⟩ := h.2.2 (by omega)
        injection he' with he'
        subst he'
        rw [hc j (by omega)]
        rw [List.getElem?_map, List.getElem?_eq_getElem hjl] at hj
        simp at hj
        subst hj
        simp [List.getD_eq_getElem?_getD, List.getElem?_eq_getElem hjl])
      simpa [hn] using this
    rw [run_convert_bytes_string w src dst e _ n c hs he hd, run_bytesToString w ad n c xs hl, foldl_push_bytes]
    simp [strOfNums, ByteArray.empty, ByteArray.emptyWithCapacity]
    rfl
theorem Kd.C_string {P : Program} {w : World} {src dst e : TypeId} {A : Option Addr} {n c : Nat} {xs : List Int} (hs : P.underlying src = some (.slice e)) (he : P.underlying e = some (.int .u8)) (hd : P.underlying dst = some .string)
    (h : (Kd.int .u8).C w A n xs) : (convert src dst (.slice A n c)).run P w = .ok (.string (strOfNums xs)) w :=
  string_of_reads hs he hd (Kd.reads_of_C (enc := Value.int .u8) (d := (0 : Int)) (h1 := fun _ => rfl) h)
theorem below_size {w W : World} (h : Below w.heap.size w W) : w.heap.size ≤ W.heap.size := h.size
theorem below_step {w W w2 : World} (h : Below w.heap.size w W) (k : Below W.heap.size W w2) : Below w.heap.size w w2 := below_then h h.size k
theorem ReadsInt.nil (W : World) (k : IntKind) : ReadsInt W k none ([] : List Int).length [] := ⟨rfl, by simp, fun h => absurd h (Nat.lt_irrefl 0)⟩
theorem ReadsInt.drewN {W : World} {k : IntKind} {A : Option Addr} {n : Nat} {xs : List Int} (h : ReadsInt W k A n xs) (m : Nat) : ReadsInt (W.drewN m) k A n xs := h
theorem below_set {w W : World} {g j : Nat} {v : Value} (h : Below w.heap.size w W) (hg : w.heap.size ≤ g) : Below w.heap.size w (W.setCell ⟨g, j, none⟩ v) := h.setCell hg _
theorem ReadsOf.nil {α : Type} (enc : α → Value) (d : α) (W : World) : ReadsOf enc d W none ([] : List α).length [] := ⟨rfl, by simp, fun h => absurd h (Nat.lt_irrefl 0)⟩
theorem ReadsOf.drewN {α : Type} {enc : α → Value} {d : α} {W : World} {A : Option Addr} {n : Nat} {xs : List α} (h : ReadsOf enc d W A n xs) (m : Nat) : ReadsOf enc d (W.drewN m) A n xs := h
theorem below_drew1 {base : Nat} {w W : World} (h : Below base w W) : Below base w W.drew := h.drew
namespace Kd
section
variable {α β : Type} {d : Kd α} {d' : Kd β} {e e' base base' n : Nat} {ok ok' : Nat → Prop} {w W w1 W1 : World} {v u : Value} {xs : List α} {ys : List β} {A : Option Addr} {c : Nat}
end
section
variable {α : Type} {enc : α → Value} {h1 : ∀ x, (enc x).oneCell' = true} {w W : World} {A : Option Addr} {n g : Nat} {xs : List α}
end
end Kd
namespace Kd
section
variable {α : Type} {d : Kd α} {e base g : Nat} {ok : Nat → Prop} {w w1 : World} {v : Value} {xs : List α} {o : Obj}
end
end Kd
section
variable {P : Program} {ops : Array Oper} {rest : List Oper} {o : Oper} {a : Act} {Q : Exit → Act → World → Prop}
theorem box_event {W : World} (hgd : o.guard = none) {N : Tmp} (_hd : o.dst = some N) {cs : Array Value} {t : TypeId}
    (hrun : (execOp a.eval o).run P W = .ok (.value (.pointer (some ⟨W.heap.size, 0, none⟩))) (W.alloc (.cells cs t (0, 0))))
    (h : ∀ g, g = W.heap.size → ∀ w1, w1.heap[g]? = some (.cells cs t (0, 0)) → Below W.heap.size W w1 → wpList P ops Q rest (a.put o.dst (.pointer (some ⟨g, 0, none⟩))) w1) : wpList P ops Q (o :: rest) a W :=
  Kd.event_run hgd hrun (h _ rfl _ (blk_new W _) (below_alloc (Below.refl _ _) _))
end
namespace Kd
section
variable {α : Type} {enc : α → Value} {h1 : ∀ x, (enc x).oneCell' = true} {e base g n cap : Nat} {ok : Nat → Prop} {W : World} {xs : List α}
end
end Kd
section
variable {P : Program} {ops : Array Oper} {rest : List Oper} {o : Oper} {a : Act} {Q : Exit → Act → World → Prop}
end
namespace Kd
section
variable {α : Type} {enc : α → Value} {h1 : ∀ x, (enc x).oneCell' = true} {e base g n cap : Nat} {ok : Nat → Prop} {W : World} {xs : List α}
theorem R_putg (h : (scalar enc h1).R e W base ok (.slice (some ⟨g, 0, none⟩) n cap) xs) (i : Int) (x : α) : (scalar enc h1).R e (W.setCell ⟨g, i.toNat, none⟩ (enc x)) base ok (.slice (some ⟨g, 0, none⟩) n cap) (xs.set i.toNat x) ∧ W.grownBy (W.setCell ⟨g, i.toNat, none⟩ (enc x)) (some g) := by
  obtain ⟨rfl, _⟩ := R_reads' h
  exact R_put h i x
end
end Kd
section
variable {P : Program} {ops : Array Oper} {rest : List Oper} {o : Oper} {a : Act} {Q : Exit → Act → World → Prop} {W : World}
theorem gate_dst {N : Tmp} (_hN : o.dst = some N) (h : wpList P ops Q (o :: rest) a W) : wpList P ops Q (o :: rest) a W := h
end
section
variable {P : Program} {ops : Array Oper} {o : Oper} {a : Act} {Q : Exit → Act → World → Prop} {Kc : Act → World → Prop}
namespace Kd
variable {α : Type}
end Kd
end
section
variable {P : Program} {tmps : Array Value} {w : World}
end
namespace Kd
section
variable {P : Program} {α : Type}
end
section
variable {P : Program} {ops : Array Oper} {rest : List Oper} {o : Oper} {a : Act} {Q : Exit → Act → World → Prop} {Kc : Act → World → Prop} {α : Type}
end
end Kd
end Go.Proofs.YtabomfmjepmkjaaW.PrintWords
end

section
namespace Go.Proofs.YtabomfmjepmkjaaW.PrintLast
section
variable {P : Program} {ops : Array Oper} {Q : Exit → Act → World → Prop} {md : Region.Mode} {S : World → Prop} {ds : List Nat}
def Region.reachB (md : Region.Mode) (ops : Array Oper) (i : Nat) : Nat → Nat → Bool
  | 0, _ => false
  | fuel + 1, d => match ops[d]? with
    | some o => o.after.any fun e => Region.binds md e && (e.on == i || Region.reachB md ops i fuel e.on)
    | none => false
def Region.closedB (md : Region.Mode) (ops : Array Oper) (listed : Array Bool) : Bool :=
  (List.range ops.size).all fun j => !listed.getD j false || match ops[j]? with
    | some o => o.after.all fun e => !Region.binds md e || listed.getD e.on false
    | none => true
def Region.lastB (md : Region.Mode) (ops : Array Oper) (listed : Array Bool) (ds : List Nat) (i : Nat) : Bool :=
  ds.all fun d => listed.getD d true || Region.reachB md ops i ops.size d
def ListedClosed (md : Region.Mode) (ops : Array Oper) (listed : Array Bool) : Prop :=
  ∀ j oj, ops[j]? = some oj → listed.getD j false = true → ∀ e ∈ oj.after, Region.binds md e = true → listed.getD e.on false = true
theorem Region.closedB_spec {listed : Array Bool} (h : Region.closedB md ops listed = true) : ListedClosed md ops listed := by
  intro j oj hj hl e he hb
  have hlt : j < ops.size := (Array.getElem?_eq_some_iff.1 hj).1
  have h1 := List.all_eq_true.1 h j (List.mem_range.2 hlt)
  simp only [hl, hj, Bool.not_true, Bool.false_or] at h1
  have h2 := Array.all_eq_true_iff_forall_mem.1 h1 e he
  simpa [hb] using h2
theorem ListedClosed.set {listed : Array Bool} {i : Nat} (h : ListedClosed md ops listed) (hi : i ∈ Region.ready md ops listed) : ListedClosed md ops (listed.setIfInBounds i true) := by
  obtain ⟨_, oi, hoi, hall⟩ := mem_ready.1 hi
  intro j oj hj hl e he hb
  by_cases hij : i = j
  · subst hij
    have : oj = oi := Option.some.inj (hj.symm.trans hoi)
    subst this
    exact getD_set_true (hall e he hb)
  · rw [getD_set_ne false hij] at hl
    exact getD_set_true (h j oj hj hl e he hb)
theorem Region.reach_listed {listed : Array Bool} {i : Nat} (hc : ListedClosed md ops listed) : ∀ (fuel d : Nat), Region.reachB md ops i fuel d = true → listed.getD d false = true → listed.getD i false = true
  | 0, _, h, _ => by simp [Region.reachB] at h
  | fuel + 1, d, h, hl => by
    unfold Region.reachB at h
    cases ho : ops[d]? with
    | none => rw [ho] at h; simp at h
    | some o =>
      rw [ho] at h
      obtain ⟨e, he, h1⟩ := Array.any_eq_true'.1 h
      simp only [Bool.and_eq_true, Bool.or_eq_true, beq_iff_eq] at h1
      have hle := hc d o ho hl e he h1.1
      rcases h1.2 with h2 | h2
      · rw [← h2]; exact hle
      · exact Region.reach_listed hc fuel e.on h2 hle
theorem Region.reach_not_ready {listed : Array Bool} {i d fuel : Nat} (hc : ListedClosed md ops listed) (hr : Region.reachB md ops i fuel d = true) (hun : listed.getD i true = false) : d ∉ Region.ready md ops listed := by
  intro hd
  obtain ⟨_, o, ho, hall⟩ := mem_ready.1 hd
  have hi : listed.getD i false = true := by
    cases fuel with
    | zero => simp [Region.reachB] at hr
    | succ n =>
      unfold Region.reachB at hr
      rw [ho] at hr
      obtain ⟨e, he, h1⟩ := Array.any_eq_true'.1 hr
      simp only [Bool.and_eq_true, Bool.or_eq_true, beq_iff_eq] at h1
      have hle := hall e he h1.1
      rcases h1.2 with h2 | h2
      · rw [← h2]; exact hle
      · exact Region.reach_listed hc n e.on h2 hle
  rcases Nat.lt_or_ge i listed.size with h' | h'
  · simp [h'] at hun hi
    rw [hun] at hi
    cases hi
  · simp [Array.getElem?_eq_none h'] at hun
def wpAnyLast (P : Program) (md : Region.Mode) (ops : Array Oper) (Q : Exit → Act → World → Prop) (S : World → Prop) (ds : List Nat) : Nat → Array Bool → Act → World → Prop
  | 0, listed, a, w => Region.ready md ops listed = [] ∧ Q .normal a w
  | fuel + 1, listed, a, w =>
    (Region.ready md ops listed = [] → Q .normal a w) ∧
    ∀ i ∈ Region.ready md ops listed, wpOp P ops Q i (fun a' w' => (i ∉ ds → S w → S w') ∧ wpAnyLast P md ops Q S ds fuel (listed.setIfInBounds i true) a' w') a w
theorem wpAny_of_last : ∀ (fuel : Nat) (listed : Array Bool) (a : Act) (w : World), wpAnyLast P md ops Q S ds fuel listed a w → wpAny P md ops Q fuel listed a w
  | 0, _, _, _, h => h
  | fuel + 1, _, _, _, h => ⟨h.1, fun i hi => wpOp_mono (fun a' w' h' => wpAny_of_last fuel _ a' w' h'.2) (h.2 i hi)⟩
theorem wpAnyLast_first {i : Nat} {oi : Oper} {v : Value} (hi : ops[i]? = some oi) (hsel : ∀ (j : Nat) (o : Oper) cs b, ops[j]? = some o → o.op ≠ .select cs b)
    (hQ : ∀ c a w, Q (.panic c) (a.put oi.dst v) w → Q (.panic c) a w) (n : Nat) :
    ∀ (fuel : Nat) (listed : Array Bool) (a : Act) (w : World),
      (∀ j oj, ops[j]? = some oj → j ≠ i → listed.getD j true = false → (∀ e ∈ oj.after, Region.binds md e = true → e.on ≠ i) → oi.apart ops oj = true) →
      ListedClosed md ops listed → (∀ d ∈ ds, listed.getD d true = false → Region.reachB md ops i n d = true) →
      i ∈ Region.ready md ops listed → YieldsIf P ops S oi v a → S w →
      wpAnyLast P md ops Q S ds fuel (listed.setIfInBounds i true) (a.put oi.dst v) w → wpAnyLast P md ops Q S ds (fuel + 1) listed a w := by
  intro fuel
  induction fuel with
  | zero =>
    intro listed a w _ _ _ hr hy hS H
    refine ⟨fun h => (by rw [h] at hr; cases hr), fun j hj => ?_⟩
    by_cases hji : j = i
    · subst hji; exact hy.wpOp hi hS ⟨fun _ h => h, H⟩
    · have := ready_mono hj hji
      rw [H.1] at this
      cases this
  | succ fuel ih =>
    intro listed a w hfree hc hd hr hy hS H
    refine ⟨fun h => (by rw [h] at hr; cases hr), fun j hj => ?_⟩
    by_cases hji : j = i
    · subst hji; exact hy.wpOp hi hS ⟨fun _ h => h, H⟩
    · have h1 := H.2 j (ready_mono hj hji)
      obtain ⟨hjun, oj, hoj, hall⟩ := mem_ready.1 hj
      have hiun := (mem_ready.1 hr).1
      have hnot : ∀ e ∈ oj.after, Region.binds md e = true → e.on ≠ i := fun e he hb heq => by
        have h1 := hall e he hb
        rw [heq] at h1
        rcases Nat.lt_or_ge i listed.size with h' | h'
        · simp [h'] at hiun h1; rw [hiun] at h1; cases h1
        · simp [Array.getElem?_eq_none h'] at h1
      have hjd : j ∉ ds := fun hm => Region.reach_not_ready hc (hd j hm hjun) hiun hj
      have h2 := wpOp_putIf hoj (hfree j oj hoj hji hjun hnot) (fun cs b => hsel i oi cs b hi) (fun cs b => hsel j oj cs b hoj) hQ hy h1
      have hfree' : ∀ k ok, ops[k]? = some ok → k ≠ i → (listed.setIfInBounds j true).getD k true = false →
          (∀ e ∈ ok.after, Region.binds md e = true → e.on ≠ i) → oi.apart ops ok = true := fun k ok hk hki hun hno => by
        refine hfree k ok hk hki ?_ hno
        by_cases hjk : j = k
        · subst hjk; exact hjun
        · rw [getD_set_ne true hjk] at hun; exact hun
      have hd' : ∀ d ∈ ds, (listed.setIfInBounds j true).getD d true = false → Region.reachB md ops i n d = true := fun d hm hun => by
        refine hd d hm ?_
        by_cases hjk : j = d
        · subst hjk; exact hjun
        · rw [getD_set_ne true hjk] at hun; exact hun
      refine wpOp_mono (fun a' w' h3 => ⟨h3.2.1, ih (listed.setIfInBounds j true) a' w' hfree' (hc.set hj) hd' (ready_mono hr (Ne.symm hji)) h3.1 (h3.2.1 hjd hS) ?_⟩) h2
      rw [Array.setIfInBounds_comm _ _ hji]
      exact h3.2.2
theorem wpAnyLast_any {i : Nat} {oi : Oper} {v : Value} (hi : ops[i]? = some oi) (hsel : ∀ (j : Nat) (o : Oper) cs b, ops[j]? = some o → o.op ≠ .select cs b)
    (hQ : ∀ c a w, Q (.panic c) (a.put oi.dst v) w → Q (.panic c) a w) :
    ∀ (fuel : Nat) (listed : Array Bool) (a : Act) (w : World),
      (∀ j oj, ops[j]? = some oj → j ≠ i → listed.getD j true = false → (∀ e ∈ oj.after, Region.binds md e = true → e.on ≠ i) → oi.apart ops oj = true) →
      i ∈ Region.ready md ops listed → Yields P ops oi v a →
      wpAnyLast P md ops Q S ds fuel (listed.setIfInBounds i true) (a.put oi.dst v) w → wpAnyLast P md ops Q S ds (fuel + 1) listed a w := by
  intro fuel
  induction fuel with
  | zero =>
    intro listed a w _ hr hy H
    refine ⟨fun h => (by rw [h] at hr; cases hr), fun j hj => ?_⟩
    by_cases hji : j = i
    · subst hji; exact (hy.yieldsIf (S := fun _ => True)).wpOp hi trivial ⟨fun _ h => h, H⟩
    · have := ready_mono hj hji
      rw [H.1] at this
      cases this
  | succ fuel ih =>
    intro listed a w hfree hr hy H
    refine ⟨fun h => (by rw [h] at hr; cases hr), fun j hj => ?_⟩
    by_cases hji : j = i
    · subst hji; exact (hy.yieldsIf (S := fun _ => True)).wpOp hi trivial ⟨fun _ h => h, H⟩
    · have h1 := H.2 j (ready_mono hj hji)
      obtain ⟨hjun, oj, hoj, hall⟩ := mem_ready.1 hj
      have hiun := (mem_ready.1 hr).1
      have hnot : ∀ e ∈ oj.after, Region.binds md e = true → e.on ≠ i := fun e he hb heq => by
        have h1 := hall e he hb
        rw [heq] at h1
        rcases Nat.lt_or_ge i listed.size with h' | h'
        · simp [h'] at hiun h1; rw [hiun] at h1; cases h1
        · simp [Array.getElem?_eq_none h'] at h1
      have h2 := wpOp_put hoj (hfree j oj hoj hji hjun hnot) (fun cs b => hsel i oi cs b hi) (fun cs b => hsel j oj cs b hoj) hQ hy h1
      have hfree' : ∀ k ok, ops[k]? = some ok → k ≠ i → (listed.setIfInBounds j true).getD k true = false →
          (∀ e ∈ ok.after, Region.binds md e = true → e.on ≠ i) → oi.apart ops ok = true := fun k ok hk hki hun hno => by
        refine hfree k ok hk hki ?_ hno
        by_cases hjk : j = k
        · subst hjk; exact hjun
        · rw [getD_set_ne true hjk] at hun; exact hun
      refine wpOp_mono (fun a' w' h3 => ⟨h3.2.1, ih (listed.setIfInBounds j true) a' w' hfree' (ready_mono hr (Ne.symm hji)) h3.1 ?_⟩) h2
      rw [Array.setIfInBounds_comm _ _ hji]
      exact h3.2.2
theorem wpAnyLast_take {i : Nat} {oi : Oper} {v : Value} {fuel : Nat} {listed : Array Bool} {a : Act} {w : World} (hi : ops[i]? = some oi)
    (hs : Region.noSelect ops = true) (hf : Region.free md ops listed i = true) (hr : (Region.ready md ops listed).contains i = true)
    (hc : Region.closedB md ops listed = true) (hl : Region.lastB md ops listed ds i = true)
    (hQ : ∀ c a w, Q (.panic c) (a.put oi.dst v) w → Q (.panic c) a w) (hy : YieldsIf P ops S oi v a) (hS : S w)
    (h : wpAnyLast P md ops Q S ds fuel (listed.setIfInBounds i true) (a.put oi.dst v) w) : wpAnyLast P md ops Q S ds (fuel + 1) listed a w :=
  wpAnyLast_first hi (Region.noSelect_spec hs) hQ ops.size fuel listed a w (Region.free_spec hi hf) (Region.closedB_spec hc)
    (fun d hm hun => by have := List.all_eq_true.1 hl d hm; rw [hun] at this; simpa using this) (by simpa using hr) hy hS h
theorem wpAnyLast_all {rs : List Nat} {fuel : Nat} {listed : Array Bool} {a : Act} {w : World} (hr : Region.ready md ops listed = rs) (hne : rs ≠ [])
    (h : ∀ i ∈ rs, wpOp P ops Q i (fun a' w' => (i ∉ ds → S w → S w') ∧ wpAnyLast P md ops Q S ds fuel (listed.setIfInBounds i true) a' w') a w) : wpAnyLast P md ops Q S ds (fuel + 1) listed a w :=
  ⟨fun h0 => absurd (hr ▸ h0) hne, hr ▸ h⟩
theorem wpAnyLast_done {listed : Array Bool} {a : Act} {w : World} (hr : Region.ready md ops listed = []) (h : Q .normal a w) :
    ∀ fuel, wpAnyLast P md ops Q S ds fuel listed a w
  | 0 => ⟨hr, h⟩
  | _ + 1 => ⟨fun _ => h, by rw [hr]; simp⟩
theorem wp_region_last {id : Nat} {a : Act} {w : World} (hm : P.follows .mixedOrders = true)
    (h : wpAnyLast P .any ops Q S ds ops.size (Array.replicate ops.size false) a { w with drawn := w.drawn + 1 }) : (Code.region id ops true).wp P Q a w :=
  wp_region_any hm (wpAny_of_last _ _ _ _ h)
end
section
variable {P : Program} {ops : Array Oper} {Q : Exit → Act → World → Prop} {md : Region.Mode} {S : World → Prop} {ds : List Nat}
def AllReadyL (P : Program) (md : Region.Mode) (ops : Array Oper) (Q : Exit → Act → World → Prop) (S : World → Prop) (ds : List Nat) (fuel : Nat) (listed : Array Bool) (a : Act) (w : World) (rs : List Nat) : Prop :=
  ∀ i ∈ rs, wpOp P ops Q i (fun a' w' => (i ∉ ds → S w → S w') ∧ wpAnyLast P md ops Q S ds fuel (listed.setIfInBounds i true) a' w') a w
theorem AllReadyL.nil {fuel : Nat} {listed : Array Bool} {a : Act} {w : World} : AllReadyL P md ops Q S ds fuel listed a w [] := fun _ h => by cases h
theorem AllReadyL.cons {fuel : Nat} {listed : Array Bool} {a : Act} {w : World} {i : Nat} {o : Oper} {rs : List Nat} (ho : ops[i]? = some o) (hd : i ∉ ds)
    (h : ∀ K' : Act → World → Prop, Shut (∀ a w, S w → (S w → wpAnyLast P md ops Q S ds fuel (listed.setIfInBounds i true) a w) → K' a w) → if Region.wanted o (yielded ops a.tmps) = true then Oper.wp P o a w K' Q else K' (a.put o.dst undef) w)
    (hs : AllReadyL P md ops Q S ds fuel listed a w rs) : AllReadyL P md ops Q S ds fuel listed a w (i :: rs) := fun j hj => by
  rcases List.mem_cons.1 hj with rfl | hj
  · exact wpOp_step ho (fun K' hK => h K' (fun a w hS hW => hK a w ⟨fun _ _ => hS, hW hS⟩))
  · exact hs j hj
theorem AllReadyL.cons_last {fuel : Nat} {listed : Array Bool} {a : Act} {w : World} {i : Nat} {o : Oper} {rs : List Nat} (ho : ops[i]? = some o) (hd : i ∈ ds)
    (h : ∀ K' : Act → World → Prop, Shut (∀ a w, wpAnyLast P md ops Q S ds fuel (listed.setIfInBounds i true) a w → K' a w) → if Region.wanted o (yielded ops a.tmps) = true then Oper.wp P o a w K' Q else K' (a.put o.dst undef) w)
    (hs : AllReadyL P md ops Q S ds fuel listed a w rs) : AllReadyL P md ops Q S ds fuel listed a w (i :: rs) := fun j hj => by
  rcases List.mem_cons.1 hj with rfl | hj
  · exact wpOp_step ho (fun K' hK => h K' (fun a w hW => hK a w ⟨fun hn => absurd hd hn, hW⟩))
  · exact hs j hj
theorem wpAnyLast_ready {rs : List Nat} {fuel : Nat} {listed : Array Bool} {a : Act} {w : World} (hr : Region.ready md ops listed = rs) (hne : rs ≠ [])
    (h : AllReadyL P md ops Q S ds fuel listed a w rs) : wpAnyLast P md ops Q S ds (fuel + 1) listed a w := wpAnyLast_all hr hne h
theorem start_ {id n : Nat} {a : Act} {w : World} (l : Array Bool) (hm : P.follows .mixedOrders = true) (hn : ops.size = n) (hl : Array.replicate n false = l) (hS : S w.drew)
    (h : S w.drew → wpAnyLast P .any ops Q S ds n l a w.drew) : (Code.region id ops true).wp P Q a w := by
  subst hn
  subst hl
  exact wp_region_last hm (h hS)
def takeB (md : Region.Mode) (ops : Array Oper) (ds : List Nat) (l l' : Array Bool) (i : Nat) : Bool :=
  Region.noSelect ops && Region.free md ops l i && (Region.ready md ops l).contains i && Region.closedB md ops l && Region.lastB md ops l ds i && (l.setIfInBounds i true == l')
theorem take_ {i : Nat} {N : Option Tmp} {oi : Oper} {v : Value} {fuel : Nat} {l : Array Bool} {a : Act} {w : World} (l' : Array Bool) (hi : ops[i]? = some oi) (hN : oi.dst = N) (hc : takeB md ops ds l l' i = true)
    (hQ : ∀ c a w, Q (.panic c) (a.put oi.dst v) w → Q (.panic c) a w) (hy : YieldsIf P ops S oi v a) (hS : S w) {a' : Act} (ha : a.put N v = a')
    (h : wpAnyLast P md ops Q S ds fuel l' a' w) : wpAnyLast P md ops Q S ds (fuel + 1) l a w := by
  subst ha
  subst hN
  simp only [takeB, Bool.and_eq_true, beq_iff_eq] at hc
  obtain ⟨⟨⟨⟨⟨h1, h2⟩, h3⟩, h4⟩, h5⟩, h6⟩ := hc
  subst h6
  exact wpAnyLast_take hi h1 h2 h3 h4 h5 hQ hy hS h
def anyB (md : Region.Mode) (ops : Array Oper) (l l' : Array Bool) (i : Nat) : Bool :=
  Region.noSelect ops && Region.free md ops l i && (Region.ready md ops l).contains i && (l.setIfInBounds i true == l')
theorem pure_ {i : Nat} {N : Option Tmp} {oi : Oper} {v : Value} {fuel : Nat} {l : Array Bool} {a : Act} {w : World} (l' : Array Bool) (hi : ops[i]? = some oi) (hN : oi.dst = N) (hc : anyB md ops l l' i = true)
    (hQ : ∀ c a w, Q (.panic c) (a.put oi.dst v) w → Q (.panic c) a w) (hy : Yields P ops oi v a) {a' : Act} (ha : a.put N v = a')
    (h : wpAnyLast P md ops Q S ds fuel l' a' w) : wpAnyLast P md ops Q S ds (fuel + 1) l a w := by
  subst ha
  subst hN
  simp only [anyB, Bool.and_eq_true, beq_iff_eq] at hc
  obtain ⟨⟨⟨h1, h2⟩, h3⟩, h6⟩ := hc
  subst h6
  exact wpAnyLast_any hi (Region.noSelect_spec h1) hQ fuel l a w (Region.free_spec hi h2) (by simpa using h3) hy h
def readyB (md : Region.Mode) (ops : Array Oper) (l l' : Array Bool) (i : Nat) : Bool := (Region.ready md ops l == [i]) && (l.setIfInBounds i true == l')
theorem one_ {i : Nat} {N : Option Tmp} {oi : Oper} {fuel : Nat} {l : Array Bool} {a : Act} {w : World} (l' : Array Bool) (hi : ops[i]? = some oi) (hN : oi.dst = N) (hc : readyB md ops l l' i = true) (hd : i ∉ ds)
    (h : ∀ K : Act → World → Prop, Shut (∀ a' w', S w' → (S w' → wpAnyLast P md ops Q S ds fuel l' a' w') → K a' w') → if Region.wanted oi (yielded ops a.tmps) = true then Oper.wp P oi a w K Q else K (a.put N undef) w) :
    wpAnyLast P md ops Q S ds (fuel + 1) l a w := by
  subst hN
  simp only [readyB, Bool.and_eq_true, beq_iff_eq] at hc
  obtain ⟨h1, h2⟩ := hc
  subst h2
  exact wpAnyLast_ready h1 (by simp) (AllReadyL.cons hi hd (fun K hK => h K hK) AllReadyL.nil)
theorem last_ {i : Nat} {N : Option Tmp} {oi : Oper} {fuel : Nat} {l : Array Bool} {a : Act} {w : World} (l' : Array Bool) (hi : ops[i]? = some oi) (hN : oi.dst = N) (hc : readyB md ops l l' i = true) (hd : i ∈ ds)
    (h : ∀ K : Act → World → Prop, Shut (∀ a' w', wpAnyLast P md ops Q S ds fuel l' a' w' → K a' w') → if Region.wanted oi (yielded ops a.tmps) = true then Oper.wp P oi a w K Q else K (a.put N undef) w) :
    wpAnyLast P md ops Q S ds (fuel + 1) l a w := by
  subst hN
  simp only [readyB, Bool.and_eq_true, beq_iff_eq] at hc
  obtain ⟨h1, h2⟩ := hc
  subst h2
  exact wpAnyLast_ready h1 (by simp) (AllReadyL.cons_last hi hd (fun K hK => h K hK) AllReadyL.nil)
theorem done_ {l : Array Bool} {a : Act} {w : World} {n : Nat} (hr : (Region.ready md ops l == []) = true) (h : Q .normal a w) : wpAnyLast P md ops Q S ds n l a w := wpAnyLast_done (by simpa using hr) h n
theorem norm_ {fuel : Nat} {l : Array Bool} {a a' : Act} {w : World} (ha : a = a') (h : wpAnyLast P md ops Q S ds fuel l a' w) : wpAnyLast P md ops Q S ds fuel l a w := by
  subst ha
  exact h
theorem enters_ {f : FuncId} {fn : Func} (hf : P.funcs[f]? = some fn) (hname : (fn.name == "runtime.NumGoroutine") = false) (hb : fn.body.isSome = true) (args : Array Value) (w : World) : (callFunc f args).run P w = .ok (.enter f args) w := by
  have h1 : fn.name ≠ "runtime.NumGoroutine" := by simpa using hname
  obtain ⟨c, hc⟩ := Option.isSome_iff_exists.1 hb
  simp [callFunc, hf, h1, hc]
theorem goesL_ {rest : List Oper} {oi : Oper} {a : Act} {w : World} (N : Option Tmp) (hd : oi.dst = N) (hg : oi.guard = none) {f : FuncId} {fn : Func} {as0 : Array Operand} {ts : Array TypeId} (hf : P.funcs[f]? = some fn) (hname : (fn.name == "runtime.NumGoroutine") = false) (hb : fn.body.isSome = true) (args : Array Value)
    (hop : oi.op = .call { callee := .value (.func f), args := as0, argTypes := ts }) (hargs : as0.map a.eval = args)
    (h : Calls P f args w fun e w' => ∃ v, e = .returned v ∧ wpList P ops Q rest (a.put N v) w') : wpList P ops Q (oi :: rest) a w := by
  refine wpList_plain hg fun K hK => ?_
  have he := enters_ hf hname hb args w
  have hrun : (execOp a.eval oi).run P w = .ok (.enter f args) w := by
    unfold execOp
    simp [hop, resolve, Deferred.ofValue, invoke, Act.eval, hargs, he]
  unfold Oper.wp
  rw [hrun, Oper.upon_enter]
  refine h.mono fun e w'' hh => ?_
  obtain ⟨v, rfl, hk⟩ := hh
  subst hd
  exact hK _ _ hk
theorem value_ {oi : Oper} {N : Option Tmp} {a : Act} {w w1 : World} {v : Value} {K : Act → World → Prop} (hw : Region.wanted oi (yielded ops a.tmps) = true) (hN : oi.dst = N) (hrun : (execOp a.eval oi).run P w = .ok (.value v) w1)
    (h : K (a.put N v) w1) : if Region.wanted oi (yielded ops a.tmps) = true then Oper.wp P oi a w K Q else K (a.put N undef) w := by
  rw [if_pos hw]
  subst hN
  unfold Oper.wp
  rw [hrun]
  exact h
theorem skip_ {oi : Oper} {a : Act} {w w1 : World} {K : Act → World → Prop} (hw : Region.wanted oi (yielded ops a.tmps) = true) (hN : oi.dst = none) (hrun : (execOp a.eval oi).run P w = .ok .skip w1)
    (h : K a w1) : if Region.wanted oi (yielded ops a.tmps) = true then Oper.wp P oi a w K Q else K (a.put none undef) w := by
  rw [if_pos hw]
  unfold Oper.wp
  rw [hrun]
  show K (a.put oi.dst undef) w1
  rw [hN]
  exact h
theorem i64_w (n : Int) : IntKind.i64.wrap n = Go.RowKit.wrap64 n := by unfold Go.RowKit.wrap64; exact IntKind.wrap_i64 n
theorem i32_w (n : Int) : IntKind.i32.wrap n = Go.RowKit.wrap32 n := by unfold Go.RowKit.wrap32; exact IntKind.wrap_i32 n
end
end Go.Proofs.YtabomfmjepmkjaaW.PrintLast
end

section
namespace Go.Proofs.YtabomfmjepmkjaaW.PrintWords
open Go.RowKit
namespace Kd
def tag {α : Type} (f : Nat → Nat) (d : Kd α) : Kd (α × Nat) where
  sz := d.sz
  E := d.E
  K := fun w x cs => d.K w x.1 cs
  M := fun w base ok x cs => d.M w base (fun k => ok k ∧ f k = x.2) x.1 cs
  K_len := fun h => d.K_len h
  K_one := fun h => d.K_one h
  K_below := fun hb h => d.K_below hb h
  K_of_M := fun h => d.K_of_M h
  M_mono := fun hok h => d.M_mono (fun k hk => ⟨hok k hk.1, hk.2⟩) h
  M_bound := fun h => d.M_mono (fun _ hk => ⟨⟨hk.1.1, hk.2⟩, hk.1.2⟩) (d.M_bound h)
  M_move := fun hm h => d.M_move (fun k hk => hm k hk.1) h
  M_lower := fun hb h => d.M_lower hb h
def raw (sz : Nat) : Kd (List Value) where
  sz := sz
  E := []
  K := fun _ x cs => cs = x ∧ cs.length = sz ∧ ∀ u ∈ cs, u.oneCell' = true
  M := fun _ _ _ x cs => cs = x ∧ cs.length = sz ∧ ∀ u ∈ cs, u.oneCell' = true
  K_len := fun h => h.2.1
  K_one := fun h => h.2.2
  K_below := fun _ h => h
  K_of_M := fun h => h
  M_mono := fun _ h => h
  M_bound := fun h => h
  M_move := fun _ h => h
  M_lower := fun _ h => h
def S {α : Type} (d : Kd α) (e : Nat) (w : World) (base : Nat) (ok : Nat → Prop) (v : Value) (xs : List α) : Prop := ∃ f, (tag f d).R e w base ok v xs.zipIdx
section
variable {α β : Type} {d : Kd α} {d' : Kd β} {e e' : Nat} {w w1 W : World} {base b : Nat} {ok ok' okv oku : Nat → Prop} {u v : Value} {xs : List α} {ys : List β}
theorem zip_at {xs : List α} {j : Nat} {p : α} (h : xs[j]? = some p) : xs.zipIdx[j]? = some (p, j) := by rw [List.getElem?_zipIdx, h, Nat.zero_add]; rfl
theorem R_tag {f f' : Nat → Nat} {zs : List (α × Nat)} (h : (tag f d).R e w base ok v zs) (hf : ∀ k, ok k → k < w.heap.size → f' k = f k) : (tag f' d).R e w base ok v zs := by
  obtain ⟨h0, inner, ho, hr⟩ := R_bound h
  exact ⟨fun k hk => (h0 k hk).1, inner, ho, hr.1, fun j p hj => d.M_mono (fun k hk => ⟨⟨hk.1.1.1, hk.1.2⟩, (hf k hk.1.1.1 hk.1.1.2.2.1).trans hk.2⟩) (hr.2 j p hj)⟩
end
section
variable {α β : Type} {d : Kd α} {d' : Kd β} {e e' g : Nat} {w w1 W : World} {base b : Nat} {ok ok' okv oku : Nat → Prop} {u v : Value} {xs : List α} {ys : List β}
end
section
open Classical in
theorem S_tag {α : Type} {d : Kd α} {e base : Nat} {okv : Nat → Prop} {w : World} {v : Value} {xs : List α} (h : S d e w base okv v xs) (m : Nat) (okp : Nat → Prop) (hap : ∀ k, okp k → ¬ okv k) : ∃ f, (∀ k, okp k → f k = m) ∧ (tag f d).R e w base okv v xs.zipIdx := by
  obtain ⟨f, h⟩ := h
  exact ⟨fun k => if okp k then m else f k, fun k hk => if_pos hk, R_tag h (fun k hk _ => if_neg (fun h2 => hap k h2 hk))⟩
variable {P : Program} {ops : Array Oper} {rest : List Oper} {o : Oper} {a : Act} {Q : Exit → Act → World → Prop} {Kc : Act → World → Prop} {α : Type}
end
def gap {α : Type} (f : Nat → Nat) (d : Kd α) (i : Nat) (c : List Value) : Kd (α × Nat) where
  sz := d.sz
  E := d.E
  K := fun w x cs => (x.2 = i → cs = c ∧ cs.length = d.sz ∧ ∀ u ∈ cs, u.oneCell' = true) ∧ (x.2 ≠ i → d.K w x.1 cs)
  M := fun w base ok x cs => (x.2 = i → cs = c ∧ cs.length = d.sz ∧ ∀ u ∈ cs, u.oneCell' = true) ∧ (x.2 ≠ i → d.M w base (fun k => ok k ∧ f k = x.2) x.1 cs)
  K_len := fun {w x cs} h => by
    by_cases hx : x.2 = i
    · exact (h.1 hx).2.1
    · exact d.K_len (h.2 hx)
  K_one := fun {w x cs} h => by
    by_cases hx : x.2 = i
    · exact (h.1 hx).2.2
    · exact d.K_one (h.2 hx)
  K_below := fun hb h => ⟨h.1, fun hx => d.K_below hb (h.2 hx)⟩
  K_of_M := fun h => ⟨h.1, fun hx => d.K_of_M (h.2 hx)⟩
  M_mono := fun hok h => ⟨h.1, fun hx => d.M_mono (fun k hk => ⟨hok k hk.1, hk.2⟩) (h.2 hx)⟩
  M_bound := fun h => ⟨h.1, fun hx => d.M_mono (fun _ hk => ⟨⟨hk.1.1, hk.2⟩, hk.1.2⟩) (d.M_bound (h.2 hx))⟩
  M_move := fun hm h => ⟨h.1, fun hx => d.M_move (fun k hk => hm k hk.1) (h.2 hx)⟩
  M_lower := fun hb h => ⟨h.1, fun hx => d.M_lower hb (h.2 hx)⟩
def H {α : Type} (d : Kd α) (e : Nat) (w : World) (base : Nat) (ok : Nat → Prop) (v : Value) (xs : List α) (i : Int) (oki : Nat → Prop) (c : List Value) : Prop :=
  (∀ k, oki k → ok k) ∧ ∃ f, (gap f d i.toNat c).R e w base (fun k => ok k ∧ ¬ oki k) v xs.zipIdx
section
variable {α β : Type} {d : Kd α} {e e' g n cap : Nat} {w w1 W : World} {base : Nat} {ok ok' oki okp : Nat → Prop} {u v : Value} {xs : List α} {i : Int} {c : List Value}
open Classical in
theorem H_back (h : H d e w base ok v xs i oki c) {x' : α} (hM : d.M w base okp x' c) (hok : ∀ k, okp k → oki k) : S d e w base ok v (xs.set i.toNat x') := by
  obtain ⟨ho, f, h0, inner, hown, hr⟩ := h
  refine ⟨fun k => if oki k then i.toNat else f k, fun k hk => (h0 k hk).1, inner, by rw [List.length_zipIdx, List.length_set]; rw [List.length_zipIdx] at hown; exact hown, by have := hr.1; rw [List.length_zipIdx] at this; rw [List.length_zipIdx, List.length_set]; exact this, fun m p hm => ?_⟩
  rw [List.getElem?_zipIdx, Nat.zero_add] at hm
  obtain ⟨q, hq, rfl⟩ := Option.map_eq_some_iff.1 hm
  have hml : m < xs.length := by
    have := (List.getElem?_eq_some_iff.1 hq).1
    rwa [List.length_set] at this
  by_cases hmi : m = i.toNat
  · subst hmi
    rw [List.getElem?_set_self hml] at hq
    injection hq with hq
    subst hq
    have hc := ((hr.2 i.toNat _ (zip_at (List.getElem?_eq_getElem hml))).1 rfl).1
    show d.M w base _ x' ((inner.drop (i.toNat * d.sz)).take d.sz)
    rw [show (inner.drop (i.toNat * d.sz)).take d.sz = c from hc]
    exact d.M_mono (fun k hk => ⟨⟨ho k (hok k hk), fun he => (h0 k he.symm).2 (hok k hk)⟩, if_pos (hok k hk)⟩) hM
  · rw [List.getElem?_set_ne (Ne.symm hmi)] at hq
    exact d.M_mono (fun k hk => ⟨⟨hk.1.1.1, hk.1.2⟩, (if_neg hk.1.1.2).trans hk.2⟩) ((hr.2 m (q, m) (zip_at hq)).2 hmi)
end
section
variable {P : Program} {ops : Array Oper} {rest : List Oper} {o : Oper} {a : Act} {Q : Exit → Act → World → Prop} {α : Type}
end
end Kd
end Go.Proofs.YtabomfmjepmkjaaW.PrintWords
end

section
namespace Go.Proofs.YtabomfmjepmkjaaW.PrintWords
open Go.RowKit
namespace Kd
structure Heap {α : Type} (d : Kd α) : Prop where
  K : ∀ {w w1 : World} {x : α} {cs : List Value}, (∀ k, k < w.heap.size → w1.heap[k]? = w.heap[k]?) → d.K w x cs → d.K w1 x cs
theorem cell_heap {w w1 : World} (hb : ∀ k, k < w.heap.size → w1.heap[k]? = w.heap[k]?) {a : Addr} {v : Value} (h : w.cell? a = some v) : w1.cell? a = some v := by
  have := hb a.block (World.block_lt_of_cell? w a h)
  simpa [World.cell?, this] using h
theorem Heap.C {α : Type} {d : Kd α} (hd : Heap d) {w w1 : World} {A : Option Addr} {n : Nat} {xs : List α} (hb : ∀ k, k < w.heap.size → w1.heap[k]? = w.heap[k]?) (h : d.C w A n xs) : d.C w1 A n xs :=
  ⟨h.1, h.2.1, fun hn => by
    obtain ⟨ad, e, hc⟩ := h.2.2 hn
    refine ⟨ad, e, fun j p hj => ?_⟩
    obtain ⟨c, hs, hr, hcell⟩ := hc j p hj
    exact ⟨c, hs, hd.K hb hr, fun i u hu => cell_heap hb (hcell i u hu)⟩⟩
section
variable {α : Type} {d : Kd α} {e base g n c : Nat} {ok : Nat → Prop} {w w0 W : World} {A : Option Addr} {xs : List α}
end
end Kd
end Go.Proofs.YtabomfmjepmkjaaW.PrintWords
end

section
namespace Go.Proofs.YtabomfmjepmkjaaW.PrintWords
open Go.RowKit
def Kept (w W : World) (S : Nat → Prop) : Prop := w.heap.size ≤ W.heap.size ∧ ∀ i, i < w.heap.size → ¬ S i → W.heap[i]? = w.heap[i]?
section
variable {w W W2 : World} {S S2 S' : Nat → Prop}
theorem Kept.refl (w : World) (S : Nat → Prop) : Kept w w S := ⟨Nat.le_refl _, fun _ _ _ => rfl⟩
theorem Kept.of_below (h : Below w.heap.size w W) (S : Nat → Prop) : Kept w W S := ⟨h.size, fun i hi _ => h.block i hi⟩
theorem Kept.mono (h : Kept w W S) (hs : ∀ k, S k → S' k) : Kept w W S' := ⟨h.1, fun i hi hn => h.2 i hi (fun hk => hn (hs i hk))⟩
theorem Kept.then_ (h : Kept w W S) (k : Kept W W2 S2) (hs : ∀ k, S2 k → S k ∨ w.heap.size ≤ k) : Kept w W2 S :=
  ⟨Nat.le_trans h.1 k.1, fun i hi hn => (k.2 i (Nat.lt_of_lt_of_le hi h.1) (fun h2 => (hs i h2).elim hn (fun h3 => by omega))).trans (h.2 i hi hn)⟩
theorem Kept.below (h : Kept w W S) (hb : Below W.heap.size W W2) : Kept w W2 S := h.then_ (Kept.of_below hb (fun _ => False)) (fun _ hk => hk.elim)
theorem Kept.alloc (h : Kept w W S) (o : Obj) : Kept w (W.alloc o) S := h.below (below_alloc (Below.refl _ _) o)
theorem Kept.drew (h : Kept w W S) : Kept w W.drew S := h
theorem Kept.drewN (h : Kept w W S) (m : Nat) : Kept w (W.drewN m) S := h
theorem Kept.setCell (h : Kept w W S) {p : Addr} (hp : S p.block ∨ w.heap.size ≤ p.block) (u : Value) : Kept w (W.setCell p u) S :=
  h.then_ (S2 := fun k => k = p.block) ⟨by simp [World.setCell], fun i _ hn => Below.heap_setCell W p u i hn⟩ (fun k hk => by rw [hk]; exact hp)
end
namespace Kd
section
variable {α : Type} {d : Kd α} {e base n c : Nat} {ok oki S S2 : Nat → Prop} {w w0 W W1 W2 : World} {v : Value} {A : Option Addr} {xs : List α} {i : Int} {cs : List Value}
end
end Kd
end Go.Proofs.YtabomfmjepmkjaaW.PrintWords
end

section
namespace Go.Proofs.YtabomfmjepmkjaaW.PrintWords
open Go.RowKit
def Foot (P : World → Prop) (W : World) (ok : Nat → Prop) : Prop := ∀ W' : World, (∀ k, ok k → k < W.heap.size → W'.heap[k]? = W.heap[k]?) → P W'
theorem heap_lt {W W1 : World} {k : Nat} (h : W1.heap[k]? = W.heap[k]?) (hlt : k < W.heap.size) : k < W1.heap.size := by
  rw [Array.getElem?_eq_getElem hlt] at h
  exact (Array.getElem?_eq_some_iff.1 h).1
namespace Foot
variable {P Q : World → Prop} {W W1 : World} {ok ok' : Nat → Prop}
theorem mono (h : Foot P W ok) (hok : ∀ k, ok k → ok' k) : Foot P W ok' := fun W' hW => h W' (fun k hk hlt => hW k (hok k hk) hlt)
theorem bound (h : Foot P W ok) : Foot P W (fun k => ok k ∧ k < W.heap.size) := fun W' hW => h W' (fun k hk hlt => hW k ⟨hk, hlt⟩ hlt)
theorem step (h : Foot P W ok) (hm : ∀ k, ok k → k < W.heap.size → W1.heap[k]? = W.heap[k]?) : Foot P W1 ok := fun W' hW => h W' (fun k hk hlt => (hW k hk (heap_lt (hm k hk hlt) hlt)).trans (hm k hk hlt))
theorem imp (h : Foot P W ok) (hi : ∀ W', P W' → Q W') : Foot Q W ok := fun W' hW => hi W' (h W' hW)
theorem old (h : Foot P W ok) (hb : Below W.heap.size W W1) : Foot P W1 (fun k => ok k ∧ k < W.heap.size) := (h.bound).step (fun k _ hlt => hb.block k hlt)
end Foot
namespace Kd
def F {α : Type} (d : Kd α) (W : World) (ok : Nat → Prop) (A : Option Addr) (n : Nat) (xs : List α) : Prop := Foot (fun W => d.C W A n xs) W ok
def FK {α : Type} (d : Kd α) (W : World) (ok : Nat → Prop) (x : α) (c : List Value) : Prop := Foot (fun W => d.K W x c) W ok
section
variable {α β : Type} {d : Kd α} {e base n n' cc g N : Nat} {ok ok' okp S : Nat → Prop} {w w0 w1 W W1 : World} {A A' : Option Addr} {u v v1 : Value} {xs : List α} {xs' : List β} {d' : Kd β} {x : α} {c : List Value}
end
end Kd
end Go.Proofs.YtabomfmjepmkjaaW.PrintWords
end

section
namespace Go.Proofs.YtabomfmjepmkjaaW.PrintWords
open Go.RowKit
namespace Kd
section
variable {α : Type} {d : Kd α} {e base n cc g : Nat} {ok ok' okp S : Nat → Prop} {w w1 W W1 : World} {A : Option Addr} {u v v1 : Value} {xs : List α} {x : α} {c : List Value}
def N {α : Type} (d : Kd α) (e : Nat) (w : World) (base : Nat) (ok : Nat → Prop) (v : Value) (xs : List α) : Prop :=
  (∀ k, v.ownBlock = some k → ok k) ∧ ∃ rows : List (List Value), rows.length = xs.length ∧ (raw d.sz).R e w base (fun k => some k = v.ownBlock) v rows ∧ ∀ (j : Nat) (x : α) (c : List Value), xs[j]? = some x → rows[j]? = some c → FK d w (fun k => ok k ∧ some k ≠ v.ownBlock) x c
end
end Kd
end Go.Proofs.YtabomfmjepmkjaaW.PrintWords
end

section
namespace Go.Proofs.YtabomfmjepmkjaaW.PrintMore
open Go.RowKit Go.Proofs.YtabomfmjepmkjaaW.PrintWords
namespace Kd
open Go.Proofs.YtabomfmjepmkjaaW.PrintWords.Kd
end Kd
namespace Kd
open Go.Proofs.YtabomfmjepmkjaaW.PrintWords.Kd
section
variable {α : Type} {d : Kd α} {e base g N : Nat} {ok : Nat → Prop} {W w1 : World} {u v : Value} {xs : List α}
end
end Kd
theorem max2_int (k k' : IntKind) (x y : Int) : Builtin.max2 (.int k x) (.int k' y) = pure (.int k (if x < y then y else x)) := by simp only [Builtin.max2, gt_iff_lt]
theorem min2_int (k k' : IntKind) (x y : Int) : Builtin.min2 (.int k x) (.int k' y) = pure (.int k (if y < x then y else x)) := by simp only [Builtin.min2]
theorem max_two (ats : Array TypeId) (ty : TypeId) (a b : Value) : Builtin.max_ ats ty #[a, b] = (Builtin.max2 a b >>= fun s => pure s) := by simp only [Builtin.max_, List.foldlM_cons, List.foldlM_nil]
theorem min_two (ats : Array TypeId) (ty : TypeId) (a b : Value) : Builtin.min_ ats ty #[a, b] = (Builtin.min2 a b >>= fun s => pure s) := by simp only [Builtin.min_, List.foldlM_cons, List.foldlM_nil]
theorem max_three (ats : Array TypeId) (ty : TypeId) (a b c : Value) : Builtin.max_ ats ty #[a, b, c] = (Builtin.max2 a b >>= fun s => Builtin.max2 s c >>= fun s => pure s) := by simp only [Builtin.max_, List.foldlM_cons, List.foldlM_nil]
theorem min_three (ats : Array TypeId) (ty : TypeId) (a b c : Value) : Builtin.min_ ats ty #[a, b, c] = (Builtin.min2 a b >>= fun s => Builtin.min2 s c >>= fun s => pure s) := by simp only [Builtin.min_, List.foldlM_cons, List.foldlM_nil]
theorem max_four (ats : Array TypeId) (ty : TypeId) (a b c d : Value) : Builtin.max_ ats ty #[a, b, c, d] = (Builtin.max2 a b >>= fun s => Builtin.max2 s c >>= fun s => Builtin.max2 s d >>= fun s => pure s) := by simp only [Builtin.max_, List.foldlM_cons, List.foldlM_nil]
theorem min_four (ats : Array TypeId) (ty : TypeId) (a b c d : Value) : Builtin.min_ ats ty #[a, b, c, d] = (Builtin.min2 a b >>= fun s => Builtin.min2 s c >>= fun s => Builtin.min2 s d >>= fun s => pure s) := by simp only [Builtin.min_, List.foldlM_cons, List.foldlM_nil]
end Go.Proofs.YtabomfmjepmkjaaW.PrintMore
namespace Go.Proofs.YtabomfmjepmkjaaW.PrintWords
open Go.RowKit
section
variable {P : Program} {ops : Array Oper} {rest : List Oper} {o : Oper} {a : Act} {Q : Exit → Act → World → Prop} {W : World}
theorem gate_callee {f : FuncId} {as0 : Array Operand} {ts : Array TypeId} (_ho : o.op = .call { callee := .value (.func f), args := as0, argTypes := ts }) (h : wpList P ops Q (o :: rest) a W) : wpList P ops Q (o :: rest) a W := h
theorem gate_builtin {b : Builtin} {xs : Array Operand} {ts : Array TypeId} (_ho : o.op = .call { callee := .builtin b, args := xs, argTypes := ts }) (h : wpList P ops Q (o :: rest) a W) : wpList P ops Q (o :: rest) a W := h
end
namespace Kd
section
variable {α : Type} {d : Kd α} {e base : Nat} {ok : Nat → Prop} {W w1 : World} {v : Value} {xs : List α}
end
section
variable {α : Type} {d : Kd α} {e base g n cap : Nat} {ok oki okp : Nat → Prop} {W : World} {xs : List α} {i : Int} {c : List Value}
end
section
variable {α : Type} {d : Kd α} {e base b b' g N : Nat} {ok ok1 : Nat → Prop} {W W2 w1 : World} {u v : Value} {xs ys : List α} {S : Nat → Prop}
end
end Kd
end Go.Proofs.YtabomfmjepmkjaaW.PrintWords
namespace Go.Proofs.YtabomfmjepmkjaaW.PrintWords
open Go.RowKit
namespace Kd
def V {α : Type} (d : Kd α) (_e : Nat) (W : World) (_base : Nat) (ok : Nat → Prop) (v : Value) (xs : List α) : Prop := ∃ A c, v = .slice A xs.length c ∧ xs.length ≤ c ∧ F d W ok A xs.length xs
section
variable {α β : Type} {d : Kd α} {e base base' n m c g N' lo hi : Nat} {ok ok' S : Nat → Prop} {w W w1 : World} {A : Option Addr} {ad : Addr} {u v v1 : Value} {xs : List α}
end
end Kd
end Go.Proofs.YtabomfmjepmkjaaW.PrintWords
end

section
namespace Go.Proofs.YtabomfmjepmkjaaW.PrintWords
theorem Reps.one {α : Type} {R : α → List Value → Prop} {ps : List α} {cs : List Value} {p : α} {v : Value} (hp : R p [v]) (h : Reps R 1 ps cs) : Reps R 1 (p :: ps) (v :: cs) := by
  refine ⟨by simp [h.1], fun j q hq => ?_⟩
  cases j with
  | zero =>
    simp only [List.getElem?_cons_zero, Option.some.injEq] at hq
    subst hq
    simpa using hp
  | succ j =>
    simp only [List.getElem?_cons_succ] at hq
    have h1 := h.2 j q hq
    simpa [Nat.mul_one] using h1
theorem Reps.front {α : Type} {R : α → List Value → Prop} {size : Nat} {ps : List α} {cs c all : List Value} {p : α} (hp : R p c) (hc : c.length = size) (h : Reps R size ps cs) (ha : c ++ cs = all) : Reps R size (p :: ps) all := by
  subst ha
  refine ⟨by rw [List.length_append, hc, h.1, List.length_cons, Nat.succ_mul, Nat.add_comm], fun j q hq => ?_⟩
  cases j with
  | zero =>
    simp only [List.getElem?_cons_zero, Option.some.injEq] at hq
    subst hq
    rw [Nat.zero_mul, List.drop_zero, List.take_append_of_le_length (by omega), List.take_of_length_le (by omega)]
    exact hp
  | succ j =>
    simp only [List.getElem?_cons_succ] at hq
    have h1 := h.2 j q hq
    rw [Nat.succ_mul, List.drop_append, List.drop_of_length_le (by rw [hc]; exact Nat.le_add_left _ _), List.nil_append, hc, Nat.add_sub_cancel]
    exact h1
theorem Reps.c2 {α : Type} {R : α → List Value → Prop} {ps : List α} {cs : List Value} {p : α} {va vb : Value} (hp : R p [va, vb]) (h : Reps R 2 ps cs) : Reps R 2 (p :: ps) (va :: vb :: cs) := Reps.front hp rfl h rfl
theorem Reps.c3 {α : Type} {R : α → List Value → Prop} {ps : List α} {cs : List Value} {p : α} {va vb vc : Value} (hp : R p [va, vb, vc]) (h : Reps R 3 ps cs) : Reps R 3 (p :: ps) (va :: vb :: vc :: cs) := Reps.front hp rfl h rfl
theorem Reps.c4 {α : Type} {R : α → List Value → Prop} {ps : List α} {cs : List Value} {p : α} {va vb vc vd : Value} (hp : R p [va, vb, vc, vd]) (h : Reps R 4 ps cs) : Reps R 4 (p :: ps) (va :: vb :: vc :: vd :: cs) := Reps.front hp rfl h rfl
theorem Reps.c5 {α : Type} {R : α → List Value → Prop} {ps : List α} {cs : List Value} {p : α} {va vb vc vd ve : Value} (hp : R p [va, vb, vc, vd, ve]) (h : Reps R 5 ps cs) : Reps R 5 (p :: ps) (va :: vb :: vc :: vd :: ve :: cs) := Reps.front hp rfl h rfl
theorem Reps.c6 {α : Type} {R : α → List Value → Prop} {ps : List α} {cs : List Value} {p : α} {va vb vc vd ve vf : Value} (hp : R p [va, vb, vc, vd, ve, vf]) (h : Reps R 6 ps cs) : Reps R 6 (p :: ps) (va :: vb :: vc :: vd :: ve :: vf :: cs) := Reps.front hp rfl h rfl
theorem Reps.c7 {α : Type} {R : α → List Value → Prop} {ps : List α} {cs : List Value} {p : α} {va vb vc vd ve vf vg : Value} (hp : R p [va, vb, vc, vd, ve, vf, vg]) (h : Reps R 7 ps cs) : Reps R 7 (p :: ps) (va :: vb :: vc :: vd :: ve :: vf :: vg :: cs) := Reps.front hp rfl h rfl
theorem Reps.c8 {α : Type} {R : α → List Value → Prop} {ps : List α} {cs : List Value} {p : α} {va vb vc vd ve vf vg vh : Value} (hp : R p [va, vb, vc, vd, ve, vf, vg, vh]) (h : Reps R 8 ps cs) : Reps R 8 (p :: ps) (va :: vb :: vc :: vd :: ve :: vf :: vg :: vh :: cs) := Reps.front hp rfl h rfl
theorem Reps.c9 {α : Type} {R : α → List Value → Prop} {ps : List α} {cs : List Value} {p : α} {va vb vc vd ve vf vg vh vi : Value} (hp : R p [va, vb, vc, vd, ve, vf, vg, vh, vi]) (h : Reps R 9 ps cs) : Reps R 9 (p :: ps) (va :: vb :: vc :: vd :: ve :: vf :: vg :: vh :: vi :: cs) := Reps.front hp rfl h rfl
end Go.Proofs.YtabomfmjepmkjaaW.PrintWords
end

section
namespace Go.Proofs.YtabomfmjepmkjaaW.PrintLast
open Go.Proofs.YtabomfmjepmkjaaW.PrintWords (Aside0)
section
variable {md : Region.Mode} {ops : Array Oper} {T : Bool × List (List Nat × List Nat)} {l l' li lj lk : Array Bool} {ds : List Nat} {i j k : Nat}
theorem gd (l : Array Bool) (j : Nat) (b : Bool) : l.getD j b = l.toList.getD j b := by simp [Array.getD_eq_getD_getElem?, List.getD_eq_getElem?_getD]
end
end Go.Proofs.YtabomfmjepmkjaaW.PrintLast
end

section
namespace Go.Proofs.Ytabomfmjepmkjaa.Lib
set_option linter.unusedVariables false
set_option linter.unusedSimpArgs false
open Go.RowKit Go.Proofs.YtabomfmjepmkjaaW.PrintWords
def Bytes (xs : List Int) : Prop := ∀ x ∈ xs, 0 ≤ x ∧ x < 256
theorem Bytes.nil : Bytes [] := fun _ h => by cases h
theorem Bytes.append {xs ys : List Int} (h : Bytes xs) (h2 : Bytes ys) : Bytes (xs ++ ys) := fun x hx => by
  rcases List.mem_append.1 hx with hx | hx
  · exact h x hx
  · exact h2 x hx
theorem Bytes.cons {x : Int} {xs : List Int} (h0 : 0 ≤ x ∧ x < 256) (h : Bytes xs) : Bytes (x :: xs) := fun y hy => by
  rcases List.mem_cons.1 hy with rfl | hy
  · exact h0
  · exact h y hy
theorem Bytes.take {xs : List Int} (h : Bytes xs) (n : Nat) : Bytes (xs.take n) := fun x hx => h x (List.mem_of_mem_take hx)
theorem Bytes.drop {xs : List Int} (h : Bytes xs) (n : Nat) : Bytes (xs.drop n) := fun x hx => h x (List.mem_of_mem_drop hx)
theorem Bytes.getD {xs : List Int} (h : Bytes xs) (k : Nat) : 0 ≤ xs.getD k 0 ∧ xs.getD k 0 < 256 := by
  rw [List.getD_eq_getElem?_getD]
  by_cases hk : k < xs.length
  · rw [List.getElem?_eq_getElem hk]; exact h _ (List.getElem_mem hk)
  · rw [List.getElem?_eq_none (by omega)]; exact ⟨by decide, by decide⟩
theorem Bytes.rd {xs : List Int} (h : Bytes xs) (i : Int) : 0 ≤ rd xs i ∧ rd xs i < 256 := h.getD i.toNat
theorem R_len {α : Type} {d : Kd α} {e : Nat} {w : World} {base : Nat} {ok : Nat → Prop} {A : Option Addr} {n c : Nat} {xs : List α} (h : d.R e w base ok (.slice A n c) xs) : n = xs.length ∧ n ≤ c := by
  obtain ⟨A', c', e1, h1, _⟩ := Kd.R_reads h
  injection e1 with _ e2 e3
  omega
theorem str_append (xs ys : List Int) : strOfNums (xs ++ ys) = strOfNums xs ++ strOfNums ys := by
  apply ByteArray.ext
  simp [strOfNums]
section
variable {P : Program} {ops : Array Oper} {rest : List Oper} {o : Oper} {a : Act} {Q : Exit → Act → World → Prop}
end
end Go.Proofs.Ytabomfmjepmkjaa.Lib
end

section
namespace Go.Proofs.Ytabomfmjepmkjaa.Lib
set_option linter.unusedVariables false
set_option linter.unusedSimpArgs false
open Go.RowKit Go.Proofs.YtabomfmjepmkjaaW.PrintWords Go.Proofs.YtabomfmjepmkjaaW.PrintLast
section
variable {P : Program} {ops : Array Oper} {Q : Exit → Act → World → Prop} {md : Region.Mode} {S S' : World → Prop}
end
section
variable {P : Program} {ops : Array Oper} {Q : Exit → Act → World → Prop}
theorem goesLv_ {rest : List Oper} {oi : Oper} {a : Act} {w : World} (N : Option Tmp) (hd : oi.dst = N) (hg : oi.guard = none) {f : FuncId} {fn : Func} {x : Operand} {ars : Array Operand} {ts : Array TypeId} {first cap : Array Value} (hf : P.funcs[f]? = some fn) (hname : (fn.name == "runtime.NumGoroutine") = false) (hb : fn.body.isSome = true) (args : Array Value)
    (hop : oi.op = .call { callee := .value x, args := ars, argTypes := ts }) (hx : a.eval x = .func (.func f) first cap) (hargs : ars.map a.eval = args)
    (h : Calls P f (first ++ args ++ cap) w fun e w' => ∃ v, e = .returned v ∧ wpList P ops Q rest (a.put N v) w') : wpList P ops Q (oi :: rest) a w := by
  refine wpList_plain hg fun K hK => ?_
  have he := enters_ hf hname hb (first ++ args ++ cap) w
  have hrun : (execOp a.eval oi).run P w = .ok (.enter f (first ++ args ++ cap)) w := by
    unfold execOp
    simp [hop, resolve, Deferred.ofValue, hx, invoke, hargs, he, -Array.append_assoc]
  unfold Oper.wp
  rw [hrun, Oper.upon_enter]
  refine h.mono fun e w'' hh => ?_
  obtain ⟨v, rfl, hk⟩ := hh
  rw [hd]
  exact hK _ _ hk
end
end Go.Proofs.Ytabomfmjepmkjaa.Lib
end

section
namespace Go.Proofs.Ytabomfmjepmkjaa.Mem
set_option linter.unusedVariables false
set_option linter.unusedSimpArgs false
open Go.RowKit Go.Proofs.YtabomfmjepmkjaaW.PrintWords Go.Proofs.YtabomfmjepmkjaaW.PrintLast Go.Proofs.YtabomfmjepmkjaaW.PrintMore Go.Proofs.Ytabomfmjepmkjaa.Lib
section
variable {P : Program} {ops : Array Oper} {o : Oper} {a : Act} {Q : Exit → Act → World → Prop}
theorem row_event2 {rest : List Oper} {W : World} (hgd : o.guard = none) {N : Tmp} (_hd : o.dst = some N) {cs : Array Value} {t : TypeId} {n c : Nat}
    (hrun : (execOp a.eval o).run P W = .ok (.value (.slice (some ⟨W.heap.size, 0, none⟩) n c)) (W.alloc (.cells cs t (0, 0))))
    (h : ∀ g, g = W.heap.size → ∀ w1, w1.heap[g]? = some (.cells cs t (0, 0)) → Below W.heap.size W w1 → wpList P ops Q rest (a.put o.dst (.slice (some ⟨g, 0, none⟩) n c)) w1) : wpList P ops Q (o :: rest) a W :=
  Kd.event_run hgd hrun (h _ rfl _ (blk_new W _) (below_alloc (Below.refl _ _) _))
end
structure Only (ok : Nat → Prop) (w w' : World) : Prop where
  os : w'.os = w.os
  tape : w'.tape = w.tape
  output : w'.output = w.output
  size : w.heap.size ≤ w'.heap.size
  block : ∀ k, k < w.heap.size → ¬ ok k → w'.heap[k]? = w.heap[k]?
theorem Only.refl (ok : Nat → Prop) (w : World) : Only ok w w := ⟨rfl, rfl, rfl, Nat.le_refl _, fun _ _ _ => rfl⟩
theorem Only.trans {ok ok' : Nat → Prop} {a b c : World} (h : Only ok a b) (h2 : Only ok' b c) (ho : ∀ k, ok' k → ok k ∨ a.heap.size ≤ k) : Only ok a c :=
  ⟨h2.os.trans h.os, h2.tape.trans h.tape, h2.output.trans h.output, Nat.le_trans h.size h2.size, fun k hk hn => (h2.block k (Nat.lt_of_lt_of_le hk h.size) (fun h3 => (ho k h3).elim hn (fun h4 => by omega))).trans (h.block k hk hn)⟩
theorem Only.mono {ok ok' : Nat → Prop} {w w' : World} (h : Only ok w w') (ho : ∀ k, ok k → ok' k) : Only ok' w w' := ⟨h.os, h.tape, h.output, h.size, fun k hk hn => h.block k hk (fun h2 => hn (ho k h2))⟩
theorem Only.below {ok : Nat → Prop} {w w' : World} (h : Only ok w w') {B : Nat} (hB : B ≤ w.heap.size) (ho : ∀ k, ok k → B ≤ k) : Below B w w' :=
  ⟨h.os, h.tape, h.output, h.size, fun k hk => h.block k (by omega) (fun hk2 => by have := ho k hk2; omega)⟩
theorem Only.of_below {ok : Nat → Prop} {w w' : World} (h : Below w.heap.size w w') : Only ok w w' := ⟨h.os, h.tape, h.output, h.size, fun k hk _ => h.block k hk⟩
theorem Only.set {ok : Nat → Prop} {w w' : World} (h : Only ok w w') {g : Nat} (o : Nat) (hg : ok g ∨ w.heap.size ≤ g) (u : Value) : Only ok w (w'.setCell ⟨g, o, none⟩ u) :=
  ⟨h.os, h.tape, h.output, by simp only [World.setCell, Array.size_modify]; exact h.size, fun k hk hn => (Below.heap_setCell w' ⟨g, o, none⟩ u k (fun e => hg.elim (fun h2 => hn (e ▸ h2)) (fun h2 => by have e' : k = g := e; omega))).trans (h.block k hk hn)⟩
theorem Only.setBlock {ok : Nat → Prop} {w w' : World} (h : Only ok w w') {g : Nat} (hg : ok g ∨ w.heap.size ≤ g) (o : Obj) : Only ok w (Go.ChangeMaps.setBlock w' g o) :=
  ⟨h.os, h.tape, h.output, by simp only [Go.ChangeMaps.setBlock, Array.size_setIfInBounds]; exact h.size, fun k hk hn => by
    have e : g ≠ k := fun e => hg.elim (fun h2 => hn (e ▸ h2)) (fun h2 => by omega)
    rw [← h.block k hk hn]
    simp [Go.ChangeMaps.setBlock, e]⟩
theorem Only.alloc {ok : Nat → Prop} {w w' : World} (h : Only ok w w') (o : Obj) : Only ok w (w'.alloc o) :=
  ⟨h.os, h.tape, h.output, Nat.le_trans h.size (by simp), fun k hk hn => (Below.heap_alloc w' o k (Nat.lt_of_lt_of_le hk h.size)).trans (h.block k hk hn)⟩
theorem Only.drew {ok : Nat → Prop} {w w' : World} (h : Only ok w w') : Only ok w w'.drew := ⟨h.os, h.tape, h.output, h.size, h.block⟩
theorem Only.drewN {ok : Nat → Prop} {w w' : World} (h : Only ok w w') (n : Nat) : Only ok w (w'.drewN n) := by
  have hb : Below w'.heap.size w' (w'.drewN n) := pw_below_drewN (Below.refl _ _) n
  exact h.trans (ok' := fun _ => False) (Only.of_below hb) (fun _ h => h.elim)
theorem Only.then_below {ok : Nat → Prop} {a b c : World} (h : Only ok a b) (h2 : Below b.heap.size b c) : Only ok a c := h.trans (ok' := fun _ => False) (Only.of_below h2) (fun _ h => h.elim)
theorem R_only {α : Type} {d : Kd α} {e base : Nat} {w w1 : World} {ok ok' : Nat → Prop} {v : Value} {xs : List α} (h : d.R e w base ok v xs) (ho : Only ok' w w1) (hd : ∀ k, ok k → base ≤ k → k < w.heap.size → ¬ ok' k) : d.R e w1 base ok v xs :=
  Kd.R_mono (Kd.R_step (Kd.R_bound h) (fun k hk hlt => ho.block k hlt (hd k hk.1 hk.2.1 hlt))) (fun _ hk => hk.1)
def okx (ok : Nat → Prop) (w w' : World) : Nat → Prop := fun k => ok k ∨ (w.heap.size ≤ k ∧ k < w'.heap.size)
theorem okx.old {ok : Nat → Prop} {w w' : World} {k : Nat} (h : ok k) : okx ok w w' k := .inl h
theorem okx.grow {ok : Nat → Prop} {w w' w2 : World} (h : w'.heap.size ≤ w2.heap.size) {k : Nat} (hk : okx ok w w' k) : okx ok w w2 k := hk.imp id (fun h2 => ⟨h2.1, by omega⟩)
theorem setCells_block (b : Nat) : ∀ (vs : List Value) (o : Nat) (w : World) (cs : Array Value) (t : TypeId) (fr : Nat × Nat), w.heap[b]? = some (.cells cs t fr) → ∃ cs' : Array Value, (w.setCells b o vs).heap[b]? = some (.cells cs' t fr) ∧ cs'.size = cs.size
  | [], o, w, cs, t, fr, h => ⟨cs, h, rfl⟩
  | v :: r, o, w, cs, t, fr, h => by
    rw [World.setCells]
    obtain ⟨cs', h1, h2⟩ := setCells_block b r (o + 1) (w.setCell ⟨b, o, none⟩ v) (cs.setIfInBounds o v) t fr (by
      simp only [World.setCell, Array.getElem?_modify, if_pos, h, Option.map_some]
      rfl)
    exact ⟨cs', h1, by rw [h2, Array.size_setIfInBounds]⟩
theorem setCells_only {ok : Nat → Prop} (b : Nat) (hb : ok b) : ∀ (vs : List Value) (o : Nat) (w w' : World), Only ok w w' → Only ok w (w'.setCells b o vs)
  | [], o, w, w', h => h
  | v :: r, o, w, w', h => setCells_only b hb r (o + 1) w _ (h.set o (.inl hb) v)
structure OwnB (w : World) (ok : Nat → Prop) (A : Option Addr) (n c : Nat) (xs : List Int) : Prop where
  len : xs.length = n
  cap : n ≤ c
  max : c ≤ maxLen
  row : (A = none ∧ c = 0) ∨ ∃ (g : Nat) (cur : Array Value), A = some ⟨g, 0, none⟩ ∧ ok g ∧ w.heap[g]? = some (.cells cur 5 (0, 0)) ∧ c ≤ cur.size ∧ ∀ (j : Nat) (x : Int), xs[j]? = some x → cur[j]? = some (Value.int .u8 x)
theorem OwnB.nil (w : World) (ok : Nat → Prop) : OwnB w ok none 0 0 [] := ⟨rfl, Nat.le_refl _, Nat.zero_le _, .inl ⟨rfl, rfl⟩⟩
section
variable {w w' : World} {ok ok' : Nat → Prop} {A : Option Addr} {n c : Nat} {xs : List Int}
theorem OwnB.mono (h : OwnB w ok A n c xs) (ho : ∀ k, ok k → ok' k) : OwnB w ok' A n c xs := ⟨h.len, h.cap, h.max, h.row.imp id (fun ⟨g, cur, e, h1, h2⟩ => ⟨g, cur, e, ho _ h1, h2⟩)⟩
theorem OwnB.move (h : OwnB w ok A n c xs) (hm : ∀ a, A = some a → w'.heap[a.block]? = w.heap[a.block]?) : OwnB w' ok A n c xs := ⟨h.len, h.cap, h.max, h.row.imp id (fun ⟨g, cur, e, h1, h2, h3⟩ => ⟨g, cur, e, h1, (hm _ e).trans h2, h3⟩)⟩
theorem OwnB.lt (h : OwnB w ok A n c xs) (a : Addr) (ha : A = some a) : a.block < w.heap.size ∧ ok a.block := by
  rcases h.row with ⟨e, _⟩ | ⟨g, cur, e, h1, h2, h3⟩
  · rw [e] at ha; cases ha
  · rw [e] at ha
    obtain rfl := Option.some.inj ha
    exact ⟨blk_lt h2, h1⟩
theorem OwnB.step (h : OwnB w ok A n c xs) (ho : Only ok' w w') (hd : ∀ a, A = some a → ¬ ok' a.block) : OwnB w' ok A n c xs := h.move (fun a ha => ho.block _ (h.lt a ha).1 (hd a ha))
theorem OwnB.reads (h : OwnB w ok A n c xs) : Kd.C (Kd.int .u8) w A n xs := by
  have hm : maxLen = 9223372036854775807 := rfl
  have h1 := h.max
  have h2 := h.cap
  refine ⟨h.len, by omega, fun h0 => ?_⟩
  rcases h.row with ⟨_, hc⟩ | ⟨g, cur, e, _, hg, _, hx⟩
  · omega
  · refine ⟨_, e, fun j p hp => ⟨[.int .u8 p], rfl, rfl, fun i u hu => ?_⟩⟩
    rcases i with _ | i
    · obtain rfl : Value.int .u8 p = u := Option.some.inj hu
      have e1 : (Kd.int .u8).sz = 1 := rfl
      rw [e1]
      rw [show j * 1 + 0 = j by omega, add_at, Nat.zero_add, blk_cell hg]
      exact hx j p hp
    · simp at hu
theorem OwnB.cutTo (h : OwnB w ok A n c xs) (k : Nat) (hk : k ≤ n) : OwnB w ok A k k (xs.take k) := by
  have hl := h.len
  have h2 := h.cap
  refine ⟨by rw [List.length_take]; omega, Nat.le_refl _, Nat.le_trans (by omega) h.max, h.row.imp (fun ⟨e, hc⟩ => ⟨e, by omega⟩) (fun ⟨g, cur, e, ho, hg, hc, hx⟩ => ⟨g, cur, e, ho, hg, by omega, fun j x hj => hx j x ?_⟩)⟩
  rw [List.getElem?_take] at hj
  split at hj
  · exact hj
  · cases hj
end
theorem news_of {w : World} {A : Option Addr} {m : Nat} {ys : List Int} (hC : Kd.C (Kd.int .u8) w A m ys) (c : Nat) : Src Try.prog 1 22 (.slice A m c) m (ys.map (Value.int .u8)) w := by
  obtain ⟨hl, hn, hc⟩ := hC
  by_cases h0 : 0 < m
  · obtain ⟨ad, rfl, hk⟩ := hc h0
    refine Src.ofSlice w Try.underlying22 ad m c _ (by rw [List.length_map, hl, Nat.mul_one]) (fun j u hu => ?_) (fun u hu => ?_)
    · rw [List.getElem?_map] at hu
      obtain ⟨p, hp, rfl⟩ := Option.map_eq_some_iff.1 hu
      obtain ⟨cs, _, e, h3⟩ := hk j p hp
      have e1 : (Kd.int .u8).sz = 1 := rfl
      have e2 : cs = [.int .u8 p] := e
      subst e2
      have := h3 0 _ rfl
      rw [e1, Nat.mul_one, Nat.add_zero] at this
      exact this
    · obtain ⟨p, _, rfl⟩ := List.mem_map.1 hu
      rfl
  · have e0 : m = 0 := by omega
    subst e0
    have : ys = [] := List.length_eq_zero_iff.1 hl
    subst this
    rcases A with _ | a
    · exact Src.ofNil w Try.underlying22 c
    · exact Src.ofSlice w Try.underlying22 a 0 c [] rfl (fun j u hu => by simp at hu) (fun u hu => by cases hu)
theorem info5 : (Try.prog.info? 5).map (fun i => (i.zero, i.size, i.bytes)) = some (some (.int .u8 0), 1, 1) := by kernel_rfl
theorem info8 : ∃ i, Try.prog.info? 5 = some i ∧ i.zero = some (.int .u8 0) ∧ i.size = 1 ∧ i.bytes = 1 := by
  have h := info5
  cases hi : Try.prog.info? 5 with
  | none => rw [hi] at h; cases h
  | some i =>
    rw [hi] at h
    injection h with h
    injection h with h1 h
    injection h with h2 h3
    exact ⟨i, rfl, h1, h2, h3⟩
theorem append_own {w : World} {ok : Nat → Prop} {A B : Option Addr} {n c m d : Nat} {xs ys : List Int} (ty : TypeId) (h : OwnB w ok A n c xs) (hC : Kd.C (Kd.int .u8) w B m ys) (hfit : n + m ≤ 140737488355328) :
    ∃ A' c' w', (Builtin.append_ #[22, 22] ty #[.slice A n c, .slice B m d]).run Try.prog w = .ok (.slice A' (n + m) c') w' ∧ OwnB w' (okx ok w w') A' (n + m) c' (xs ++ ys) ∧ Only (fun k => ∃ a, A = some a ∧ k = a.block) w w' ∧ (∀ a, A' = some a → A = A' ∨ w.heap.size ≤ a.block) := by
  obtain ⟨i, hi, hz, hsz, hby⟩ := info8
  have hs := news_of hC d
  rw [← hsz] at hs
  have hl := h.len
  have hcl : ys.length = m := hC.1
  have hm : maxLen = 9223372036854775807 := rfl
  by_cases h0 : m = 0
  · subst h0
    have : ys = [] := List.length_eq_zero_iff.1 hcl
    subst this
    refine ⟨A, c, w, run_append_nothing w _ _ ty _ i Try.underlying22 hi A n c h.cap _ hs, ?_, Only.refl _ _, fun a _ => .inl rfl⟩
    rw [List.append_nil]
    exact h.mono (fun _ hk => .inl hk)
  · by_cases hroom : n + m ≤ c
    · rcases h.row with ⟨_, hc0⟩ | ⟨g, cur, rfl, hok, hg, hcc, hx⟩
      · omega
      · have hrun := run_append_room_src w _ _ ty _ i Try.underlying22 hi g 0 n c _ m _ hs hroom (fun j hj => by
          rw [List.length_map] at hj
          rw [blk_cell hg, hsz, Array.getElem?_eq_getElem (by omega)]
          rfl) (fun j hj => blk_frozen hg _)
        rw [hsz, Nat.mul_one, Nat.zero_add] at hrun
        obtain ⟨cs', h1, h2⟩ := setCells_block g (ys.map (Value.int .u8)) n w cur _ _ hg
        refine ⟨_, c, _, hrun, ⟨by rw [List.length_append]; omega, hroom, h.max, .inr ⟨g, cs', rfl, .inl hok, h1, by omega, fun j x hj => ?_⟩⟩, setCells_only g ⟨_, rfl, rfl⟩ _ _ _ _ (Only.refl _ _), fun a _ => .inl rfl⟩
        rw [← blk_cell h1 j]
        by_cases hjn : j < n
        · rw [List.getElem?_append_left (by omega)] at hj
          rw [World.cell?_setCells_out g _ n w ⟨g, j, none⟩ (fun _ _ => .inl hjn), blk_cell hg]
          exact hx j x hj
        · rw [List.getElem?_append_right (by omega), hl] at hj
          obtain ⟨hjy, hjx⟩ := List.getElem?_eq_some_iff.1 hj
          have h3 := World.cell?_setCells_in g (ys.map (Value.int .u8)) n w (fun q hq => by
            rw [List.length_map] at hq
            rw [blk_cell hg, Array.getElem?_eq_getElem (by omega)]
            rfl) (j - n) (by rw [List.length_map]; exact hjy)
          rw [show n + (j - n) = j by omega] at h3
          rw [h3, List.getElem_map, hjx]
    · have hold : (Builtin.firstCells i.size n (.slice A n c)).run Try.prog w.drew = .ok (xs.map (Value.int .u8)).toArray w.drew := by
        have h4 : OwnB w.drew ok A n c xs := h.move (fun _ _ => rfl)
        have h5 := news_of h4.reads c
        rw [hsz]
        exact h5.cells
      have hfits := growslice_fits (need := n + m) (old := c) (bytes := i.bytes) (by omega) (by rw [hby]; omega)
      have hrun := run_append_grow_src w _ _ ty _ i (.int .u8 0) Try.underlying22 hi hz A n c _ hold _ m _ hs (by omega) (by omega) hfits
      have hge := grownCap_ge w (n + m) c 5
      have hmx := grownCap_le_maxLen w (n + m) c 5 (by omega)
      have hlt : w.heap.size < (w.drew.alloc (.cells ((xs.map (Value.int .u8) ++ ys.map (Value.int .u8)).toArray ++ Builtin.zeroCells (Value.cells (.int .u8 0)) (grownCap w (n + m) c 5 - (n + m))) 5)).heap.size := by simp
      refine ⟨_, _, _, hrun, ⟨by rw [List.length_append]; omega, hge, hmx, .inr ⟨w.heap.size, _, rfl, .inr ⟨Nat.le_refl _, hlt⟩, (MapKept.heap_alloc w.drew _).1, ?_, fun j x hj => ?_⟩⟩, ((Only.refl _ w).drew).alloc _, fun a ha => .inr (by obtain rfl := Option.some.inj ha; exact Nat.le_refl _)⟩
      · rw [Array.size_append, List.size_toArray, List.length_append, List.length_map, List.length_map]
        have : (Builtin.zeroCells (Value.cells (.int .u8 0)) (grownCap w (n + m) c 5 - (n + m))).size = grownCap w (n + m) c 5 - (n + m) := by
          simp [Builtin.zeroCells, Value.cells]
        omega
      · have hj2 := (List.getElem?_eq_some_iff.1 hj).1
        rw [Array.getElem?_append_left (by rw [List.size_toArray, List.length_append, List.length_map, List.length_map]; rw [List.length_append] at hj2; exact hj2), List.getElem?_toArray, ← List.map_append, List.getElem?_map, hj]
        rfl
end Go.Proofs.Ytabomfmjepmkjaa.Mem
end

section
namespace Go.Proofs.Ytabomfmjepmkjaa.Txt
set_option linter.unusedVariables false
set_option linter.unusedSimpArgs false
open Go.RowKit Go.Proofs.YtabomfmjepmkjaaW.PrintWords Go.Proofs.Ytabomfmjepmkjaa.Lib
abbrev T := List UInt8
def bs (t : T) : ByteArray := ⟨t.toArray⟩
theorem bs_data (t : T) : (bs t).data.toList = t := rfl
theorem bs_of (s : ByteArray) : bs s.data.toList = s := rfl
theorem bs_size (t : T) : (bs t).size = t.length := rfl
theorem bs_eq (a b : ByteArray) : (a = b) ↔ a.data.toList = b.data.toList := ⟨fun h => by rw [h], fun h => by rw [← bs_of a, ← bs_of b, h]⟩
def text : Kd T := Kd.scalar encStr (fun _ => rfl)
theorem at_text {w : World} {A : Option Addr} {n : Nat} {xs : List T} (h : text.C w A n xs) (k : Nat) (hk : k < n) : ∃ ad, A = some ad ∧ w.cell? (ad.add k) = some (.string (bs (xs.getD k []))) := by
  obtain ⟨ad, c, e, hc, hK, hcell⟩ := Kd.C_get h [] (k : Int) (by omega) (by omega)
  rw [Int.toNat_natCast] at hK hcell
  have hK' : c = [encStr (xs.getD k [])] := hK
  subst hK'
  have := hcell 0 _ rfl
  have e1 : text.sz = 1 := rfl
  rw [e1, Nat.mul_one, Nat.add_zero] at this
  exact ⟨ad, e, this⟩
theorem lt_irrefl (a : T) : ¬ a < a := List.lt_irrefl a
theorem lt_trans {a b c : T} (h : a < b) (h2 : b < c) : a < c := List.lt_trans h h2
theorem lt_or (a b : T) : a < b ∨ a = b ∨ b < a := by
  by_cases h1 : a < b
  · exact .inl h1
  · by_cases h2 : b < a
    · exact .inr (.inr h2)
    · exact .inr (.inl (List.le_antisymm h2 h1))
theorem lt_of_lt_le {a b c : T} (h : a < b) (h2 : b ≤ c) : a < c := by
  rcases lt_or b c with h3 | rfl | h3
  · exact lt_trans h h3
  · exact h
  · exact absurd h3 h2
theorem le_trans {a b c : T} (h : a ≤ b) (h2 : b ≤ c) : a ≤ c := fun h3 => h2 (lt_of_lt_le h3 h)
def begins (s p : T) : Bool := p.isPrefixOf s
theorem begins_iff (s p : T) : begins s p = true ↔ p <+: s := List.isPrefixOf_iff_prefix
end Go.Proofs.Ytabomfmjepmkjaa.Txt
end

section
namespace Go.Proofs.Ytabomfmjepmkjaa.Mem
set_option linter.unusedVariables false
set_option linter.unusedSimpArgs false
open Go.RowKit Go.Proofs.YtabomfmjepmkjaaW.PrintWords Go.Proofs.YtabomfmjepmkjaaW.PrintLast Go.Proofs.YtabomfmjepmkjaaW.PrintMore Go.Proofs.Ytabomfmjepmkjaa.Lib
structure Elt (α : Type) where
  kd : Kd α
  el : TypeId
  row : TypeId
  enc : α → Value
  zero : Value
  bytes : Nat
structure Elt.Ok {α : Type} (E : Elt α) : Prop where
  sz : E.kd.sz = 1
  K : ∀ w x cs, E.kd.K w x cs ↔ cs = [E.enc x]
  und : Try.prog.underlying E.row = some (.slice E.el)
  info : (Try.prog.info? E.el).map (fun i => (i.zero, i.size, i.bytes)) = some (some E.zero, 1, E.bytes)
  one : ∀ x, (E.enc x).oneCell' = true
  ozero : Value.cells E.zero = #[E.zero]
  small : E.bytes ≤ 4096
variable {α : Type} {E : Elt α}
structure Own (E : Elt α) (w : World) (ok : Nat → Prop) (A : Option Addr) (n c : Nat) (xs : List α) : Prop where
  len : xs.length = n
  cap : n ≤ c
  max : c ≤ maxLen
  row : (A = none ∧ c = 0) ∨ ∃ (g : Nat) (cur : Array Value), A = some ⟨g, 0, none⟩ ∧ ok g ∧ w.heap[g]? = some (.cells cur E.el (0, 0)) ∧ c ≤ cur.size ∧ ∀ (j : Nat) (x : α), xs[j]? = some x → cur[j]? = some (E.enc x)
theorem Own.nil (w : World) (ok : Nat → Prop) : Own E w ok none 0 0 [] := ⟨rfl, Nat.le_refl _, Nat.zero_le _, .inl ⟨rfl, rfl⟩⟩
section
variable {w w' : World} {ok ok' : Nat → Prop} {A : Option Addr} {n c : Nat} {xs : List α}
theorem Own.mono (h : Own E w ok A n c xs) (ho : ∀ k, ok k → ok' k) : Own E w ok' A n c xs := ⟨h.len, h.cap, h.max, h.row.imp id (fun ⟨g, cur, e, h1, h2⟩ => ⟨g, cur, e, ho _ h1, h2⟩)⟩
theorem Own.move (h : Own E w ok A n c xs) (hm : ∀ a, A = some a → w'.heap[a.block]? = w.heap[a.block]?) : Own E w' ok A n c xs := ⟨h.len, h.cap, h.max, h.row.imp id (fun ⟨g, cur, e, h1, h2, h3⟩ => ⟨g, cur, e, h1, (hm _ e).trans h2, h3⟩)⟩
theorem Own.lt (h : Own E w ok A n c xs) (a : Addr) (ha : A = some a) : a.block < w.heap.size ∧ ok a.block := by
  rcases h.row with ⟨e, _⟩ | ⟨g, cur, e, h1, h2, h3⟩
  · rw [e] at ha; cases ha
  · rw [e] at ha
    obtain rfl := Option.some.inj ha
    exact ⟨blk_lt h2, h1⟩
theorem Own.step (h : Own E w ok A n c xs) (ho : Only ok' w w') (hd : ∀ a, A = some a → ¬ ok' a.block) : Own E w' ok A n c xs := h.move (fun a ha => ho.block _ (h.lt a ha).1 (hd a ha))
theorem Own.reads (HE : E.Ok) (h : Own E w ok A n c xs) : Kd.C E.kd w A n xs := by
  have hm : maxLen = 9223372036854775807 := rfl
  have h1 := h.max
  have h2 := h.cap
  refine ⟨h.len, by omega, fun h0 => ?_⟩
  rcases h.row with ⟨_, hc⟩ | ⟨g, cur, e, _, hg, _, hx⟩
  · omega
  · refine ⟨_, e, fun j p hp => ⟨[E.enc p], HE.sz.symm, (HE.K _ _ _).2 rfl, fun i u hu => ?_⟩⟩
    rcases i with _ | i
    · obtain rfl : E.enc p = u := Option.some.inj hu
      have e1 : E.kd.sz = 1 := HE.sz
      rw [e1]
      rw [show j * 1 + 0 = j by omega, add_at, Nat.zero_add, blk_cell hg]
      exact hx j p hp
    · simp at hu
theorem Own.cutTo (h : Own E w ok A n c xs) (k : Nat) (hk : k ≤ n) : Own E w ok A k k (xs.take k) := by
  have hl := h.len
  have h2 := h.cap
  refine ⟨by rw [List.length_take]; omega, Nat.le_refl _, Nat.le_trans (by omega) h.max, h.row.imp (fun ⟨e, hc⟩ => ⟨e, by omega⟩) (fun ⟨g, cur, e, ho, hg, hc, hx⟩ => ⟨g, cur, e, ho, hg, by omega, fun j x hj => hx j x ?_⟩)⟩
  rw [List.getElem?_take] at hj
  split at hj
  · exact hj
  · cases hj
end
theorem news_of1 (HE : E.Ok) {w : World} {A : Option Addr} {m : Nat} {ys : List α} (hC : Kd.C E.kd w A m ys) (c : Nat) : Src Try.prog 1 E.row (.slice A m c) m (ys.map E.enc) w := by
  obtain ⟨hl, hn, hc⟩ := hC
  by_cases h0 : 0 < m
  · obtain ⟨ad, rfl, hk⟩ := hc h0
    refine Src.ofSlice w HE.und ad m c _ (by rw [List.length_map, hl, Nat.mul_one]) (fun j u hu => ?_) (fun u hu => ?_)
    · rw [List.getElem?_map] at hu
      obtain ⟨p, hp, rfl⟩ := Option.map_eq_some_iff.1 hu
      obtain ⟨cs, _, e, h3⟩ := hk j p hp
      have e1 : E.kd.sz = 1 := HE.sz
      have e2 : cs = [E.enc p] := (HE.K _ _ _).1 e
      subst e2
      have := h3 0 _ rfl
      rw [e1, Nat.mul_one, Nat.add_zero] at this
      exact this
    · obtain ⟨p, _, rfl⟩ := List.mem_map.1 hu
      exact HE.one p
  · have e0 : m = 0 := by omega
    subst e0
    have : ys = [] := List.length_eq_zero_iff.1 hl
    subst this
    rcases A with _ | a
    · exact Src.ofNil w HE.und c
    · exact Src.ofSlice w HE.und a 0 c [] rfl (fun j u hu => by simp at hu) (fun u hu => by cases hu)
theorem info_of (HE : E.Ok) : ∃ i, Try.prog.info? E.el = some i ∧ i.zero = some E.zero ∧ i.size = 1 ∧ i.bytes = E.bytes := by
  have h := HE.info
  cases hi : Try.prog.info? E.el with
  | none => rw [hi] at h; cases h
  | some i =>
    rw [hi] at h
    injection h with h
    injection h with h1 h
    injection h with h2 h3
    exact ⟨i, rfl, h1, h2, h3⟩
theorem append_one (HE : E.Ok) {w : World} {ok : Nat → Prop} {A B : Option Addr} {n c m d : Nat} {xs ys : List α} (ty : TypeId) (h : Own E w ok A n c xs) (hC : Kd.C E.kd w B m ys) (hfit : (n + m) * E.bytes ≤ 140737488355328) (hfit1 : n + m ≤ 140737488355328) :
    ∃ A' c' w', (Builtin.append_ #[E.row, E.row] ty #[.slice A n c, .slice B m d]).run Try.prog w = .ok (.slice A' (n + m) c') w' ∧ Own E w' (okx ok w w') A' (n + m) c' (xs ++ ys) ∧ Only (fun k => ∃ a, A = some a ∧ k = a.block) w w' ∧ (∀ a, A' = some a → A = A' ∨ w.heap.size ≤ a.block) := by
  obtain ⟨i, hi, hz, hsz, hby⟩ := info_of HE
  have hs := news_of1 HE hC d
  rw [← hsz] at hs
  have hl := h.len
  have hcl : ys.length = m := hC.1
  have hm : maxLen = 9223372036854775807 := rfl
  by_cases h0 : m = 0
  · subst h0
    have : ys = [] := List.length_eq_zero_iff.1 hcl
    subst this
    refine ⟨A, c, w, run_append_nothing w _ _ ty _ i HE.und hi A n c h.cap _ hs, ?_, Only.refl _ _, fun a _ => .inl rfl⟩
    rw [List.append_nil]
    exact h.mono (fun _ hk => .inl hk)
  · by_cases hroom : n + m ≤ c
    · rcases h.row with ⟨_, hc0⟩ | ⟨g, cur, rfl, hok, hg, hcc, hx⟩
      · omega
      · have hrun := run_append_room_src w _ _ ty _ i HE.und hi g 0 n c _ m _ hs hroom (fun j hj => by
          rw [List.length_map] at hj
          rw [blk_cell hg, hsz, Array.getElem?_eq_getElem (by omega)]
          rfl) (fun j hj => blk_frozen hg _)
        rw [hsz, Nat.mul_one, Nat.zero_add] at hrun
        obtain ⟨cs', h1, h2⟩ := setCells_block g (ys.map E.enc) n w cur _ _ hg
        refine ⟨_, c, _, hrun, ⟨by rw [List.length_append]; omega, hroom, h.max, .inr ⟨g, cs', rfl, .inl hok, h1, by omega, fun j x hj => ?_⟩⟩, setCells_only g ⟨_, rfl, rfl⟩ _ _ _ _ (Only.refl _ _), fun a _ => .inl rfl⟩
        rw [← blk_cell h1 j]
        by_cases hjn : j < n
        · rw [List.getElem?_append_left (by omega)] at hj
          rw [World.cell?_setCells_out g _ n w ⟨g, j, none⟩ (fun _ _ => .inl hjn), blk_cell hg]
          exact hx j x hj
        · rw [List.getElem?_append_right (by omega), hl] at hj
          obtain ⟨hjy, hjx⟩ := List.getElem?_eq_some_iff.1 hj
          have h3 := World.cell?_setCells_in g (ys.map E.enc) n w (fun q hq => by
            rw [List.length_map] at hq
            rw [blk_cell hg, Array.getElem?_eq_getElem (by omega)]
            rfl) (j - n) (by rw [List.length_map]; exact hjy)
          rw [show n + (j - n) = j by omega] at h3
          rw [h3, List.getElem_map, hjx]
    · have hold : (Builtin.firstCells i.size n (.slice A n c)).run Try.prog w.drew = .ok (xs.map E.enc).toArray w.drew := by
        have h4 : Own E w.drew ok A n c xs := h.move (fun _ _ => rfl)
        have h5 := news_of1 HE (Own.reads HE h4) c
        rw [hsz]
        exact h5.cells
      have hfits := growslice_fits (need := n + m) (old := c) (bytes := i.bytes) (by omega) (by rw [hby]; omega)
      have hrun := run_append_grow_src w _ _ ty _ i E.zero HE.und hi hz A n c _ hold _ m _ hs (by omega) (by omega) hfits
      have hge := grownCap_ge w (n + m) c E.el
      have hmx := grownCap_le_maxLen w (n + m) c E.el (by omega)
      have hlt : w.heap.size < (w.drew.alloc (.cells ((xs.map E.enc ++ ys.map E.enc).toArray ++ Builtin.zeroCells (Value.cells E.zero) (grownCap w (n + m) c E.el - (n + m))) E.el)).heap.size := by simp
      refine ⟨_, _, _, hrun, ⟨by rw [List.length_append]; omega, hge, hmx, .inr ⟨w.heap.size, _, rfl, .inr ⟨Nat.le_refl _, hlt⟩, (MapKept.heap_alloc w.drew _).1, ?_, fun j x hj => ?_⟩⟩, ((Only.refl _ w).drew).alloc _, fun a ha => .inr (by obtain rfl := Option.some.inj ha; exact Nat.le_refl _)⟩
      · rw [Array.size_append, List.size_toArray, List.length_append, List.length_map, List.length_map]
        have : (Builtin.zeroCells (Value.cells E.zero) (grownCap w (n + m) c E.el - (n + m))).size = grownCap w (n + m) c E.el - (n + m) := by
          simp [Builtin.zeroCells, HE.ozero]
        omega
      · have hj2 := (List.getElem?_eq_some_iff.1 hj).1
        rw [Array.getElem?_append_left (by rw [List.size_toArray, List.length_append, List.length_map, List.length_map]; rw [List.length_append] at hj2; exact hj2), List.getElem?_toArray, ← List.map_append, List.getElem?_map, hj]
        rfl
variable {w w' : World} {ok ok' : Nat → Prop} {A : Option Addr} {n c : Nat} {xs : List α}
theorem Own.at (h : Own E w ok A n c xs) (i : Nat) (x : α) (hx : xs[i]? = some x) : ∃ g, A = some ⟨g, 0, none⟩ ∧ ok g ∧ g < w.heap.size ∧ w.cell? ⟨g, i, none⟩ = some (E.enc x) ∧ w.frozen? ⟨g, i, none⟩ = false := by
  have hn := (List.getElem?_eq_some_iff.1 hx).1
  rcases h.row with ⟨_, h0⟩ | ⟨g, cur, e, h1, h2, h3, h4⟩
  · have := h.len; have := h.cap; omega
  · exact ⟨g, e, h1, blk_lt h2, (blk_cell h2 i).trans (h4 i x hx), blk_frozen h2 i⟩
theorem Own.set (h : Own E w ok A n c xs) {g : Nat} (hg : A = some ⟨g, 0, none⟩) (i : Nat) (x : α) : Own E (w.setCell ⟨g, i, none⟩ (E.enc x)) ok A n c (xs.set i x) := by
  refine ⟨by rw [List.length_set]; exact h.len, h.cap, h.max, ?_⟩
  rcases h.row with ⟨h1, _⟩ | ⟨g', cur, e, h1, h2, h3, h4⟩
  · rw [h1] at hg; cases hg
  · rw [e] at hg
    obtain rfl : g' = g := by injection hg with hg; injection hg
    refine .inr ⟨g', cur.setIfInBounds i (E.enc x), e, h1, ?_, by rw [Array.size_setIfInBounds]; exact h3, fun j y hj => ?_⟩
    · simp only [World.setCell, Array.getElem?_modify, if_pos, h2, Option.map_some]
      rfl
    · rw [List.getElem?_set] at hj
      rw [Array.getElem?_setIfInBounds]
      by_cases hij : i = j
      · subst hij
        rw [if_pos rfl] at hj
        by_cases hi : i < xs.length
        · rw [if_pos hi] at hj
          obtain rfl := Option.some.inj hj
          have := h.len; have := h.cap
          rw [if_pos rfl, if_pos (by omega)]
        · rw [if_neg hi] at hj; cases hj
      · rw [if_neg hij] at hj
        rw [if_neg hij]
        exact h4 j y hj
theorem C_one (HE : E.Ok) {w : World} {g : Nat} {x : α} {t : TypeId} (h : w.heap[g]? = some (.cells #[E.enc x] t (0, 0))) : Kd.C E.kd w (some ⟨g, 0, none⟩) 1 [x] := by
  refine ⟨rfl, by decide, fun _ => ⟨_, rfl, fun j p hp => ⟨[E.enc p], HE.sz.symm, (HE.K _ _ _).2 rfl, fun i u hu => ?_⟩⟩⟩
  rcases j with _ | j
  · obtain rfl : x = p := Option.some.inj hp
    rcases i with _ | i
    · obtain rfl : E.enc x = u := Option.some.inj hu
      rw [Nat.zero_mul, Nat.zero_add, add_at, Nat.zero_add, blk_cell h]; rfl
    · simp at hu
  · simp at hp
theorem cut_out (HE : E.Ok) {w : World} {ok : Nat → Prop} {A : Option Addr} {n c : Nat} {xs : List α} (ty : TypeId) (h : Own E w ok A n c xs) (i : Nat) (hi : i < n) (hlen : n < 1000000) :
    ∃ A' c' w', (Builtin.append_ #[E.row, E.row] ty #[.slice A i i, .slice (if c = i + 1 then A else Option.map (fun x => { block := x.block, off := x.off + (i + 1) }) A) (n - (i + 1)) (c - (i + 1))]).run Try.prog w = .ok (.slice A' (n - 1) c') w' ∧ Own E w' (okx ok w w') A' (n - 1) c' (xs.eraseIdx i) ∧ Only (fun k => ∃ a, A = some a ∧ k = a.block) w w' ∧ (∀ a, A' = some a → A = A' ∨ w.heap.size ≤ a.block) := by
  have hl := h.len
  subst hl
  have h1 := h.cutTo i (Nat.le_of_lt hi)
  have h2 := Kd.C_drop (Own.reads HE h) (m := i + 1) (by omega) h.cap
  rw [List.length_drop, HE.sz] at h2
  have e1 : (if c = i + 1 then A else A.map (·.add ((i + 1) * 1))) = (if c = i + 1 then A else Option.map (fun x => { block := x.block, off := x.off + (i + 1) }) A) := by
    rw [Nat.mul_one]; rfl
  rw [e1] at h2
  have hs : (i + (xs.length - (i + 1))) * E.bytes ≤ 140737488355328 := by
    have h3 := HE.small
    have h4 : (i + (xs.length - (i + 1))) * E.bytes ≤ 1000000 * 4096 := Nat.mul_le_mul (by omega) h3
    omega
  obtain ⟨A', c', w', hrun, hr, ho, hA⟩ := append_one HE (d := c - (i + 1)) ty h1 h2 hs (by omega)
  rw [show i + (xs.length - (i + 1)) = xs.length - 1 by omega] at hrun hr
  rw [← List.eraseIdx_eq_take_drop_succ] at hr
  exact ⟨A', c', w', hrun, hr, ho, hA⟩
section
variable {ops : Array Oper} {o : Oper} {a : Act} {Q : Exit → Act → World → Prop}
theorem append_one_event (HE : E.Ok) {rest : List Oper} {W : World} (hgd : o.guard = none) {sx x : Operand} {ts : Array TypeId} (hop : o.op = .call { callee := .builtin .append, args := #[sx, x], argTypes := ts }) (hts : ts = #[E.row, E.row]) {ok : Nat → Prop} {A B : Option Addr} {n c m d : Nat} {xs ys : List α}
    (hs : a.eval sx = .slice A n c) (hx : a.eval x = .slice B m d) (h : Own E W ok A n c xs) (hC : Kd.C E.kd W B m ys) (hfit : (n + m) * E.bytes ≤ 140737488355328) (hfit1 : n + m ≤ 140737488355328)
    (hK : ∀ A' c' w', Own E w' (okx ok W w') A' (n + m) c' (xs ++ ys) → Only (fun k => ∃ a, A = some a ∧ k = a.block) W w' → (∀ a, A' = some a → A = A' ∨ W.heap.size ≤ a.block) → wpList Try.prog ops Q rest (a.put o.dst (.slice A' (n + m) c')) w') : wpList Try.prog ops Q (o :: rest) a W := by
  subst hts
  obtain ⟨A', c', w', hrun, h1, h2, h3⟩ := append_one HE (d := d) o.type h hC hfit hfit1
  exact Kd.event_run hgd (v := .slice A' (n + m) c') (w1 := w') (by simp [execOp, hop, resolve, invoke, builtin, hs, hx, hrun, Result.andThen]) (hK A' c' w' h1 h2 h3)
end
def eT : Elt Txt.T := ⟨Txt.text, 9, 36, encStr, .string .empty, 16⟩
theorem eT_ok : eT.Ok := ⟨rfl, fun _ _ _ => Iff.rfl, Try.underlying36, by kernel_rfl, fun _ => rfl, rfl, by decide⟩
def eI : Elt Int := ⟨Kd.int .i64, 3, 37, Value.int .i64, .int .i64 0, 8⟩
theorem eI_ok : eI.Ok := ⟨rfl, fun _ _ _ => Iff.rfl, Try.underlying37, by kernel_rfl, fun _ => rfl, rfl, by decide⟩
end Go.Proofs.Ytabomfmjepmkjaa.Mem
end

section
namespace Go.Proofs.Ytabomfmjepmkjaa.Ext
open Go.RowKit
theorem less_dec (a b : ByteArray) : Op.bytesLess a.toList b.toList = decide (a.data.toList < b.data.toList) := by
  rw [ByteArray.toList_eq, ByteArray.toList_eq, bytesLess_eq]
theorem list_lt_or (a b : List UInt8) : a < b ∨ a = b ∨ b < a := by
  rcases Decidable.em (a < b) with h | h
  · exact .inl h
  rcases Decidable.em (b < a) with h2 | h2
  · exact .inr (.inr h2)
  exact .inr (.inl (List.le_antisymm h2 h))
theorem eq_dec (a b : ByteArray) : (a.toList == b.toList) = decide (a.data.toList = b.data.toList) := by
  rw [ByteArray.toList_eq, ByteArray.toList_eq, Bool.eq_iff_iff, beq_iff_eq, decide_eq_true_iff]
theorem less_or_eq (a b : ByteArray) : (Op.bytesLess a.toList b.toList || a.toList == b.toList) = !(Op.bytesLess b.toList a.toList) := by
  rw [less_dec, less_dec, eq_dec]
  rcases list_lt_or a.data.toList b.data.toList with h | h | h
  · rw [decide_eq_true h, decide_eq_false (fun h2 => List.lt_asymm h h2)]; rfl
  · rw [h, decide_eq_false (List.lt_irrefl _)]; simp
  · rw [decide_eq_true h, decide_eq_false (fun h2 => List.lt_asymm h h2), decide_eq_false (fun h2 => by rw [h2] at h; exact List.lt_irrefl _ h)]; rfl
theorem gtr_str (t : TypeId) (a b : ByteArray) : binOp .gtr t (.string a) (.string b) = pure (.bool (Op.bytesLess b.toList a.toList)) := by
  have h : binOp .gtr t (.string a) (.string b) = pure (.bool !(Op.bytesLess a.toList b.toList || a.toList == b.toList)) := by simp [binOp, Op.stringOp]
  rw [h, less_or_eq, Bool.not_not]
theorem leq_str (t : TypeId) (a b : ByteArray) : binOp .leq t (.string a) (.string b) = pure (.bool !(Op.bytesLess b.toList a.toList)) := by
  have h : binOp .leq t (.string a) (.string b) = pure (.bool (Op.bytesLess a.toList b.toList || a.toList == b.toList)) := by simp [binOp, Op.stringOp]
  rw [h, less_or_eq]
theorem geq_str (t : TypeId) (a b : ByteArray) : binOp .geq t (.string a) (.string b) = pure (.bool !(Op.bytesLess a.toList b.toList)) := by
  simp [binOp, Op.stringOp]
theorem q1_ {α : Type} (l : List α) (i : Nat) (a : α) : l.toArray.setIfInBounds i a = (l.set i a).toArray := List.setIfInBounds_toArray ..
theorem q2_ {α : Type} (x : α) (l : List α) (a : α) : (x :: l).set 0 a = a :: l := rfl
theorem q3_ {α : Type} (x : α) (l : List α) (i : Nat) (a : α) : (x :: l).set (i + 1) a = x :: l.set i a := rfl
end Go.Proofs.Ytabomfmjepmkjaa.Ext
end

section
namespace Go.Proofs.Ytabomfmjepmkjaa.Mem
set_option linter.unusedVariables false
set_option linter.unusedSimpArgs false
open Go.RowKit Go.Proofs.YtabomfmjepmkjaaW.PrintWords Go.Proofs.Ytabomfmjepmkjaa.Lib
open Go.MapKept Go.ChangeMaps
section
variable {P : Program} {w : World} {mt kt et : TypeId} {d : TypeDesc} {r : Nat} {es : Array MapEntry} {clock : Nat} {key : Value}
theorem find_none (hk : IsKey d key) (hks : ∀ x ∈ es.toList, IsKey d x.key) (h : ∀ x ∈ es.toList, x.key ≠ key) : Instr.findNow d key es.toList 0 = some none := by
  rcases findNow_spec hk es.toList 0 hks with ⟨h1, _⟩ | ⟨j, e, _, h2, h3⟩
  · exact h1
  · exact absurd h3 (h e (List.mem_of_getElem? h2))
theorem find_some (hk : IsKey d key) (hks : ∀ x ∈ es.toList, IsKey d x.key) (hn : es.toList.Pairwise fun x y => x.key ≠ y.key) {j : Nat} {e : MapEntry} (hj : es.toList[j]? = some e) (he : e.key = key) : Instr.findNow d key es.toList 0 = some (some (j, e.val)) := by
  rcases findNow_spec hk es.toList 0 hks with ⟨_, h2⟩ | ⟨i, e', h1, h2, h3⟩
  · exact absurd he (h2 e (List.mem_of_getElem? hj))
  · have : i = j := by
      obtain ⟨hi, ei⟩ := List.getElem?_eq_some_iff.1 h2
      obtain ⟨hj', ej⟩ := List.getElem?_eq_some_iff.1 hj
      rcases Nat.lt_trichotomy i j with hlt | hlt | hlt
      · exact absurd (show (es.toList[i]).key = (es.toList[j]).key by rw [ei, ej, h3, he]) (List.pairwise_iff_getElem.1 hn i j hi hj' hlt)
      · exact hlt
      · exact absurd (show (es.toList[j]).key = (es.toList[i]).key by rw [ei, ej, h3, he]) (List.pairwise_iff_getElem.1 hn j i hj' hi hlt)
    subst this
    rw [hj] at h2
    obtain rfl := Option.some.inj h2
    rw [h1, Nat.zero_add]
theorem run_lookup_none (hm : P.underlying mt = some (.map kt et)) (hd : P.underlying kt = some d) {z : Value} (hz : (zeroValue et).run P w = .ok z w) (hb : w.heap[r]? = some (.map es clock)) (hk : IsKey d key) (hf : Instr.findNow d key es.toList 0 = some none) :
    (Instr.lookup mt (.map (some r)) key false).run P w = .ok z w := by
  simp [Instr.lookup, run_underlying hm, MapKept.run_getObj_map hb, run_checkKey hd hk, run_findKey hd hf, hz, Result.andThen]
theorem run_lookup_some (hm : P.underlying mt = some (.map kt et)) (hd : P.underlying kt = some d) (hb : w.heap[r]? = some (.map es clock)) (hk : IsKey d key) {j : Nat} {v : Value} (hf : Instr.findNow d key es.toList 0 = some (some (j, v))) :
    (Instr.lookup mt (.map (some r)) key false).run P w = .ok v w := by
  simp [Instr.lookup, run_underlying hm, MapKept.run_getObj_map hb, run_checkKey hd hk, run_findKey hd hf, Result.andThen]
theorem run_update_new (hm : P.underlying mt = some (.map kt et)) (hd : P.underlying kt = some d) (hb : w.heap[r]? = some (.map es clock)) (hk : IsKey d key) (hf : Instr.findNow d key es.toList 0 = some none) (v : Value) :
    (Instr.mapUpdate mt (.map (some r)) key v).run P w = .ok () (setBlock w r (.map (es.push ⟨key, v, clock⟩) (clock + 1))) := by
  simp [Instr.mapUpdate, run_underlying hm, MapKept.run_getObj_map hb, run_checkKey hd hk, run_findKey hd hf, run_setObj_map _ hb, Result.andThen, setBlock]
theorem run_update_old (hm : P.underlying mt = some (.map kt et)) (hd : P.underlying kt = some d) (hb : w.heap[r]? = some (.map es clock)) (hk : IsKey d key) {j : Nat} {e : MapEntry} (hj : es.toList[j]? = some e) (he : e.key = key) (hf : Instr.findNow d key es.toList 0 = some (some (j, e.val))) (v : Value) :
    (Instr.mapUpdate mt (.map (some r)) key v).run P w = .ok () (setBlock w r (.map (es.modify j fun x => { x with key := key, val := v }) clock)) := by
  have hj' : es[j]? = some e := by simpa using hj
  simp [Instr.mapUpdate, run_underlying hm, MapKept.run_getObj_map hb, run_checkKey hd hk, run_findKey hd hf, hj', he, run_keyThatStays hk, run_setObj_map _ hb, Result.andThen, setBlock]
theorem run_delete_old (kx : TypeId) (ty : TypeId) (hm : P.underlying mt = some (.map kt et)) (hd : P.underlying kt = some d) (hb : w.heap[r]? = some (.map es clock)) (hk : IsKey d key) {j : Nat} {v : Value} (hf : Instr.findNow d key es.toList 0 = some (some (j, v))) :
    (Builtin.delete_ #[mt, kx] ty #[.map (some r), key]).run P w = .ok (.tuple #[]) (setBlock w r (.map (es.eraseIdxIfInBounds j) clock)) := by
  simp [Builtin.delete_, run_underlying hm, MapKept.run_getObj_map hb, run_checkKey hd hk, run_findKey hd hf, run_setObj_map _ hb, Result.andThen, setBlock]
theorem run_maplen (mt2 : TypeId) (ty : TypeId) (hm : P.underlying mt2 = some (.map kt et)) (hb : w.heap[r]? = some (.map es clock)) : (Builtin.len_ #[mt2] ty #[.map (some r)]).run P w = .ok (.int .i64 es.size) w := by
  simp [Builtin.len_, run_underlying hm, MapKept.run_getObj_map hb, Result.andThen, goInt]
end
section
variable {P : Program} {ops : Array Oper} {o : Oper} {a : Act} {Q : Exit → Act → World → Prop}
theorem update_event {rest : List Oper} {W W2 : World} (hgd : o.guard = none) {m x v : Operand} {t : TypeId} (hop : o.op = Op.mapUpdate t m x v) {M K V : Value} (hm : a.eval m = M) (hx : a.eval x = K) (hv : a.eval v = V)
    (hrun : (Instr.mapUpdate t M K V).run P W = .ok () W2) (h : ∀ w2, w2 = W2 → wpList P ops Q rest (a.put o.dst undef) w2) : wpList P ops Q (o :: rest) a W := by
  refine wpList_plain hgd fun K' hK' => ?_
  unfold Oper.wp
  simp [execOp, hop, hm, hx, hv, hrun, Result.andThen]
  exact hK' _ _ (h _ rfl)
end
theorem set_heap (w : World) (r : Nat) (o : Obj) (hr : r < w.heap.size) : (setBlock w r o).heap[r]? = some o := by simp [setBlock, hr]
theorem set_other (w : World) (r k : Nat) (o : Obj) (h : k ≠ r) : (setBlock w r o).heap[k]? = w.heap[k]? := by simp [setBlock, Ne.symm h]
theorem set_size (w : World) (r : Nat) (o : Obj) : (setBlock w r o).heap.size = w.heap.size := by simp [setBlock]
end Go.Proofs.Ytabomfmjepmkjaa.Mem
end

section
namespace Go.Proofs.Ytabomfmjepmkjaa.Dk
set_option linter.unusedVariables false
set_option linter.unusedSimpArgs false
open Go.RowKit Go.Proofs.YtabomfmjepmkjaaW.PrintWords Go.Proofs.YtabomfmjepmkjaaW.PrintLast Go.Proofs.YtabomfmjepmkjaaW.PrintMore Go.Proofs.Ytabomfmjepmkjaa.Lib Go.Proofs.Ytabomfmjepmkjaa.Mem Go.Proofs.Ytabomfmjepmkjaa.Txt
open Go.MapKept Go.ChangeMaps
abbrev Fv := List Int × Nat
abbrev Fs := List (T × Fv)
structure DS where
  off : Bool
  ops : Int
  cutAt : Int
  part : Int
  fs : Fs
def hasName (nm : T) (x : T × Fv) : Bool := decide (x.1 = nm)
def look (fs : Fs) (nm : T) : Option Fv := (fs.find? (hasName nm)).map (·.2)
def putF (fs : Fs) (nm : T) (v : Fv) : Fs := match fs.findIdx? (hasName nm) with | some i => fs.set i (nm, v) | none => fs ++ [(nm, v)]
def delF (fs : Fs) (nm : T) : Fs := match fs.findIdx? (hasName nm) with | some i => fs.eraseIdx i | none => fs
def cut1 (part : Int) (v : Fv) : Fv := (v.1.take (v.2 + (min (max part 0) ((v.1.length : Int) - v.2)).toNat), v.2 + (min (max part 0) ((v.1.length : Int) - v.2)).toNat)
def DS.cut (s : DS) (part : Int) : DS := { s with off := true, fs := s.fs.map fun x => (x.1, cut1 part x.2) }
def okByte (b : UInt8) : Bool := decide (33 ≤ b.toNat) && decide (b.toNat ≤ 126)
def named (t : T) : Bool := t.all okByte && (decide (0 < t.length) && decide (t.length ≤ 64))
def refuse (s : DS) (there : Bool) (names : List T) : Int :=
  if s.off = true then 122 else if names.any (fun t => !named t) = true then 1 else if (there && (look s.fs (names.headD [])).isNone) = true then 120 else 0
def doneS (s : DS) (f : DS → DS) : DS × Int := if s.ops = s.cutAt then (DS.cut { s with ops := s.ops + 1 } s.part, 122) else (f { s with ops := s.ops + 1 }, 0)
def appendS (s : DS) (nm : T) (b : List Int) : DS × Int :=
  if refuse s false [nm] ≠ 0 then (s, refuse s false [nm]) else
  match look s.fs nm with
  | some v => doneS { s with fs := putF s.fs nm (v.1 ++ b, v.2) } id
  | none => if 1000 ≤ s.fs.length then (s, 1) else doneS { s with fs := putF s.fs nm (b, 0) } id
def syncF (fs : Fs) (nm : T) : Fs := match look fs nm with | some v => putF fs nm (v.1, v.1.length) | none => fs
def syncS (s : DS) (nm : T) : DS × Int := if refuse s true [nm] ≠ 0 then (s, refuse s true [nm]) else doneS s fun s => { s with fs := syncF s.fs nm }
def renF (fs : Fs) (a b : T) : Fs := match look fs a with | some v => putF (delF fs a) b v | none => fs
def renameS (s : DS) (a b : T) : DS × Int := if refuse s true [a, b] ≠ 0 then (s, refuse s true [a, b]) else doneS s fun s => { s with fs := renF s.fs a b }
def removeS (s : DS) (nm : T) : DS × Int := if refuse s true [nm] ≠ 0 then (s, refuse s true [nm]) else doneS s fun s => { s with fs := delF s.fs nm }
def sortT (l : List T) : List T := l.mergeSort fun x y => decide (x ≤ y)
def listS (s : DS) (pre : T) : List T := if s.off = true then [] else (sortT (s.fs.map (·.1))).filter fun t => begins t pre
structure FM where
  name : T
  born : Nat
  q : Nat
  A : Option Addr
  c : Nat
  bytes : List Int
  syn : Nat
def ent (m : FM) : MapEntry := ⟨.string (bs m.name), .pointer (some ⟨m.q, 0, none⟩), m.born⟩
def FM.abs (m : FM) : T × Fv := (m.name, m.bytes, m.syn)
structure FAt (w : World) (ok : Nat → Prop) (m : FM) : Prop where
  okq : ok m.q
  blk : w.heap[m.q]? = some (.cells #[.slice m.A m.bytes.length m.c, .int .i64 m.syn] 68 (0, 0))
  row : OwnB w ok m.A m.bytes.length m.c m.bytes
  syn : m.syn ≤ m.bytes.length
def Apart (a b : FM) : Prop := a.name ≠ b.name ∧ a.born ≠ b.born ∧ a.q ≠ b.q ∧ ∀ x y, a.A = some x → b.A = some y → x.block ≠ y.block
theorem Apart.symm {a b : FM} (h : Apart a b) : Apart b a := ⟨h.1.symm, h.2.1.symm, h.2.2.1.symm, fun x y hx hy e => h.2.2.2 y x hy hx e.symm⟩
structure DkMs (w : World) (ok : Nat → Prop) (p : Nat) (s : DS) (mb clock : Nat) (ms : List FM) : Prop where
  abs : ms.map FM.abs = s.fs
  okp : ok p
  okm : ok mb
  blk : w.heap[p]? = some (.cells #[.map (some mb), .bool s.off, .int .i64 s.ops, .int .i64 s.cutAt, .int .i64 s.part] 64 (0, 0))
  mblk : w.heap[mb]? = some (.map (ms.map ent).toArray clock)
  files : ∀ m ∈ ms, FAt w ok m
  apart : ms.Pairwise Apart
  born : ∀ m ∈ ms, m.born < clock
def DkAt (w : World) (ok : Nat → Prop) (p : Nat) (s : DS) : Prop := ∃ mb clock ms, DkMs w ok p s mb clock ms
section
variable {w w' : World} {ok ok' : Nat → Prop} {p mb clock : Nat} {s s' : DS} {ms : List FM} {m m' : FM}
theorem FAt.step (h : FAt w ok m) (hq : w'.heap[m.q]? = w.heap[m.q]?) (hA : ∀ a, m.A = some a → w'.heap[a.block]? = w.heap[a.block]?) (ho : ∀ k, ok k → ok' k) : FAt w' ok' m :=
  ⟨ho _ h.okq, hq.trans h.blk, (h.row.move hA).mono ho, h.syn⟩
theorem FAt.ltA (h : FAt w ok m) (a : Addr) (ha : m.A = some a) : a.block < w.heap.size ∧ ok a.block := h.row.lt a ha
theorem DkMs.step (h : DkMs w ok p s mb clock ms) (ho : Only ok' w w') (hd : ∀ k, ok k → k < w.heap.size → ¬ ok' k) : DkMs w' ok p s mb clock ms :=
  ⟨h.abs, h.okp, h.okm, (ho.block p (blk_lt h.blk) (hd p h.okp (blk_lt h.blk))).trans h.blk, (ho.block mb (blk_lt h.mblk) (hd mb h.okm (blk_lt h.mblk))).trans h.mblk,
    fun m hm => (h.files m hm).step (ho.block _ (blk_lt (h.files m hm).blk) (hd _ (h.files m hm).okq (blk_lt (h.files m hm).blk))) (fun a ha => ho.block _ ((h.files m hm).ltA a ha).1 (hd _ ((h.files m hm).ltA a ha).2 ((h.files m hm).ltA a ha).1)) (fun _ hk => hk), h.apart, h.born⟩
theorem DkMs.mono (h : DkMs w ok p s mb clock ms) (ho : ∀ k, ok k → ok' k) : DkMs w ok' p s mb clock ms :=
  ⟨h.abs, ho _ h.okp, ho _ h.okm, h.blk, h.mblk, fun m hm => (h.files m hm).step rfl (fun _ _ => rfl) ho, h.apart, h.born⟩
theorem DkMs.bound (h : DkMs w ok p s mb clock ms) : DkMs w (fun k => ok k ∧ k < w.heap.size) p s mb clock ms :=
  ⟨h.abs, ⟨h.okp, blk_lt h.blk⟩, ⟨h.okm, blk_lt h.mblk⟩, h.blk, h.mblk, fun m hm => ⟨⟨(h.files m hm).okq, blk_lt (h.files m hm).blk⟩, (h.files m hm).blk, by
    have hr := (h.files m hm).row
    exact ⟨hr.len, hr.cap, hr.max, hr.row.imp id (fun ⟨g, cur, e, h1, h2, h3⟩ => ⟨g, cur, e, ⟨h1, blk_lt h2⟩, h2, h3⟩)⟩, (h.files m hm).syn⟩, h.apart, h.born⟩
theorem DkAt.step (h : DkAt w ok p s) (ho : Only ok' w w') (hd : ∀ k, ok k → k < w.heap.size → ¬ ok' k) : DkAt w' ok p s := by obtain ⟨mb, cl, ms, h⟩ := h; exact ⟨mb, cl, ms, h.step ho hd⟩
theorem DkAt.mono (h : DkAt w ok p s) (ho : ∀ k, ok k → ok' k) : DkAt w ok' p s := by obtain ⟨mb, cl, ms, h⟩ := h; exact ⟨mb, cl, ms, h.mono ho⟩
theorem DkAt.bound (h : DkAt w ok p s) : DkAt w (fun k => ok k ∧ k < w.heap.size) p s := by obtain ⟨mb, cl, ms, h⟩ := h; exact ⟨mb, cl, ms, h.bound⟩
theorem DkAt.below (h : DkAt w ok p s) (hb : Below w.heap.size w w') : DkAt w' ok p s := h.step (Only.of_below (ok := fun _ => False) hb) (fun _ _ _ h => h)
theorem ne_kind {a b : Nat} {o o2 : Obj} (h : w.heap[a]? = some o) (h2 : w.heap[b]? = some o2) (hne : o ≠ o2) : a ≠ b := fun e => by
  subst e
  rw [h] at h2
  exact hne (Option.some.inj h2)
theorem DkMs.p_mb (h : DkMs w ok p s mb clock ms) : p ≠ mb := ne_kind h.blk h.mblk (fun e => by cases e)
theorem DkMs.p_q (h : DkMs w ok p s mb clock ms) (hm : m ∈ ms) : p ≠ m.q := ne_kind h.blk (h.files m hm).blk (fun e => by injection e with _ e; exact absurd e (by decide))
theorem DkMs.mb_q (h : DkMs w ok p s mb clock ms) (hm : m ∈ ms) : mb ≠ m.q := ne_kind h.mblk (h.files m hm).blk (fun e => by cases e)
theorem row_blk (h : OwnB w ok m.A m.bytes.length m.c m.bytes) (a : Addr) (ha : m.A = some a) : ∃ cur, w.heap[a.block]? = some (.cells cur 5 (0, 0)) := by
  rcases h.row with ⟨e, _⟩ | ⟨g, cur, e, _, h2, _⟩
  · rw [e] at ha; cases ha
  · rw [e] at ha
    obtain rfl := Option.some.inj ha
    exact ⟨cur, h2⟩
theorem DkMs.p_A (h : DkMs w ok p s mb clock ms) (hm : m ∈ ms) (a : Addr) (ha : m.A = some a) : p ≠ a.block := by
  obtain ⟨cur, h2⟩ := row_blk (h.files m hm).row a ha
  exact ne_kind h.blk h2 (fun e => by injection e with _ e; exact absurd e (by decide))
theorem DkMs.mb_A (h : DkMs w ok p s mb clock ms) (hm : m ∈ ms) (a : Addr) (ha : m.A = some a) : mb ≠ a.block := by
  obtain ⟨cur, h2⟩ := row_blk (h.files m hm).row a ha
  exact ne_kind h.mblk h2 (fun e => by cases e)
theorem DkMs.q_A (h : DkMs w ok p s mb clock ms) (hm : m ∈ ms) (hm' : m' ∈ ms) (a : Addr) (ha : m'.A = some a) : m.q ≠ a.block := by
  obtain ⟨cur, h2⟩ := row_blk (h.files m' hm').row a ha
  exact ne_kind (h.files m hm).blk h2 (fun e => by injection e with _ e; exact absurd e (by decide))
theorem DkMs.at_p (h : DkMs w ok p s mb clock ms) (ho : Only (fun k => k = p) w w') (hfs : s'.fs = s.fs)
    (hb : w'.heap[p]? = some (.cells #[.map (some mb), .bool s'.off, .int .i64 s'.ops, .int .i64 s'.cutAt, .int .i64 s'.part] 64 (0, 0))) : DkMs w' ok p s' mb clock ms :=
  ⟨h.abs.trans hfs.symm, h.okp, h.okm, hb, (ho.block mb (blk_lt h.mblk) (Ne.symm h.p_mb)).trans h.mblk,
    fun m hm => (h.files m hm).step (ho.block _ (blk_lt (h.files m hm).blk) (Ne.symm (h.p_q hm))) (fun a ha => ho.block _ ((h.files m hm).ltA a ha).1 (Ne.symm (h.p_A hm a ha))) (fun _ hk => hk), h.apart, h.born⟩
theorem blk_set {w : World} {g : Nat} {cs : Array Value} {t : TypeId} {fr : Nat × Nat} (h : w.heap[g]? = some (.cells cs t fr)) (o : Nat) (v : Value) : (w.setCell ⟨g, o, none⟩ v).heap[g]? = some (.cells (cs.setIfInBounds o v) t fr) := by
  simp only [World.setCell, Array.getElem?_modify, if_pos, h, Option.map_some]
  rfl
theorem DkMs.set_off (h : DkMs w ok p s mb clock ms) (b : Bool) : DkMs (w.setCell ⟨p, 1, none⟩ (.bool b)) ok p { s with off := b } mb clock ms := h.at_p ((Only.refl (fun k => k = p) w).set 1 (.inl rfl) _) rfl (blk_set h.blk 1 _)
theorem DkMs.set_ops (h : DkMs w ok p s mb clock ms) (n : Int) : DkMs (w.setCell ⟨p, 2, none⟩ (.int .i64 n)) ok p { s with ops := n } mb clock ms := h.at_p ((Only.refl (fun k => k = p) w).set 2 (.inl rfl) _) rfl (blk_set h.blk 2 _)
theorem DkMs.at_file (h : DkMs w ok p s mb clock ms) {i : Nat} (hi : ms[i]? = some m) (ho : Only (fun k => k = m.q ∨ ∃ a, m.A = some a ∧ k = a.block) w w') (hf : FAt w' (okx ok w w') m') (hn : m'.name = m.name) (hb : m'.born = m.born) (hq : m'.q = m.q)
    (hA : ∀ a, m'.A = some a → m.A = m'.A ∨ w.heap.size ≤ a.block) : DkMs w' (okx ok w w') p { s with fs := s.fs.set i m'.abs } mb clock (ms.set i m') := by
  have hmem : m ∈ ms := List.mem_of_getElem? hi
  obtain ⟨hil, hie⟩ := List.getElem?_eq_some_iff.1 hi
  have hent : ent m' = ent m := by unfold ent; rw [hn, hb, hq]
  have hkeep : ∀ j x, ms[j]? = some x → j ≠ i → Apart x m := fun j x hj hne => by
    obtain ⟨hjl, hje⟩ := List.getElem?_eq_some_iff.1 hj
    rw [← hje, ← hie]
    rcases Nat.lt_or_gt_of_ne hne with hlt | hlt
    · exact List.pairwise_iff_getElem.1 h.apart j i hjl hil hlt
    · exact (List.pairwise_iff_getElem.1 h.apart i j hil hjl hlt).symm
  have hap : ∀ x, x ∈ ms → Apart x m → Apart x m' := fun x hx hxm => ⟨by rw [hn]; exact hxm.1, by rw [hb]; exact hxm.2.1, by rw [hq]; exact hxm.2.2.1, fun a b ha hbb => by
    rcases hA b hbb with e | e
    · exact hxm.2.2.2 a b ha (e.trans hbb)
    · have := ((h.files x hx).ltA a ha).1
      omega⟩
  refine ⟨by rw [List.map_set, h.abs], .inl h.okp, .inl h.okm, ?_, ?_, fun x hx => ?_, ?_, fun x hx => ?_⟩
  · exact (ho.block p (blk_lt h.blk) (fun e => e.elim (h.p_q hmem) (fun ⟨a, ha, e⟩ => h.p_A hmem a ha e))).trans h.blk
  · rw [List.map_set, hent, show (ms.map ent).set i (ent m) = ms.map ent by rw [← List.map_set, ← hie, List.set_getElem_self]]
    exact (ho.block mb (blk_lt h.mblk) (fun e => e.elim (h.mb_q hmem) (fun ⟨a, ha, e⟩ => h.mb_A hmem a ha e))).trans h.mblk
  · obtain ⟨j, hj⟩ := List.mem_iff_getElem?.1 hx
    rw [List.getElem?_set] at hj
    split at hj
    · obtain rfl := Option.some.inj hj
      exact hf
    · rename_i hne
      have hxm : x ∈ ms := List.mem_of_getElem? hj
      have ha := hkeep j x hj (Ne.symm hne)
      have hfx := h.files x hxm
      exact hfx.step (ho.block _ (blk_lt hfx.blk) (fun e => e.elim ha.2.2.1 (fun ⟨a, haa, e⟩ => h.q_A hxm hmem a haa e))) (fun a haa => ho.block _ (hfx.ltA a haa).1 (fun e => e.elim (fun e => h.q_A hmem hxm a haa e.symm) (fun ⟨b, hb2, e⟩ => ha.2.2.2 a b haa hb2 e))) (fun _ hk => .inl hk)
  · refine List.pairwise_iff_getElem.2 (fun a b ha hb2 hab => ?_)
    rw [List.length_set] at ha hb2
    rw [List.getElem_set, List.getElem_set]
    by_cases e1 : i = a
    · rw [if_pos e1, if_neg (by omega)]
      exact (hap _ (List.getElem_mem _) (hkeep b _ (List.getElem?_eq_getElem hb2) (by omega))).symm
    · rw [if_neg e1]
      by_cases e2 : i = b
      · rw [if_pos e2]
        exact hap _ (List.getElem_mem _) (hkeep a _ (List.getElem?_eq_getElem ha) (by omega))
      · rw [if_neg e2]
        exact List.pairwise_iff_getElem.1 h.apart a b ha hb2 hab
  · rcases List.mem_or_eq_of_mem_set hx with hx | rfl
    · exact h.born x hx
    · rw [hb]; exact h.born m hmem
end
end Go.Proofs.Ytabomfmjepmkjaa.Dk
end

section
namespace Go.Proofs.Ytabomfmjepmkjaa.Dk
set_option linter.unusedVariables false
set_option linter.unusedSimpArgs false
open Go.RowKit Go.Proofs.YtabomfmjepmkjaaW.PrintWords Go.Proofs.YtabomfmjepmkjaaW.PrintLast Go.Proofs.YtabomfmjepmkjaaW.PrintMore Go.Proofs.Ytabomfmjepmkjaa.Lib Go.Proofs.Ytabomfmjepmkjaa.Mem Go.Proofs.Ytabomfmjepmkjaa.Txt
open Go.MapKept Go.ChangeMaps
structure BS where
  names : List T
  bytes : List T
  syn : List Int
structure BkMs (w : World) (ok : Nat → Prop) (q : Nat) (b : BS) (A1 A2 A3 : Option Addr) (n1 n2 n3 c1 c2 c3 : Nat) : Prop where
  okq : ok q
  blk : w.heap[q]? = some (.cells #[.slice A1 n1 c1, .slice A2 n2 c2, .slice A3 n3 c3] 39 (0, 0))
  r1 : Own eT w ok A1 n1 c1 b.names
  r2 : Own eT w ok A2 n2 c2 b.bytes
  r3 : Own eI w ok A3 n3 c3 b.syn
  d12 : ∀ a a', A1 = some a → A2 = some a' → a.block ≠ a'.block
def BkAt (w : World) (ok : Nat → Prop) (q : Nat) (b : BS) : Prop := ∃ A1 A2 A3 n1 n2 n3 c1 c2 c3, BkMs w ok q b A1 A2 A3 n1 n2 n3 c1 c2 c3
section
variable {w w' : World} {ok ok' : Nat → Prop} {q : Nat} {b : BS} {A1 A2 A3 : Option Addr} {n1 n2 n3 c1 c2 c3 : Nat}
theorem BkMs.step (h : BkMs w ok q b A1 A2 A3 n1 n2 n3 c1 c2 c3) (ho : Only ok' w w') (hd : ∀ k, ok k → k < w.heap.size → ¬ ok' k) : BkMs w' ok q b A1 A2 A3 n1 n2 n3 c1 c2 c3 :=
  ⟨h.okq, (ho.block q (blk_lt h.blk) (hd q h.okq (blk_lt h.blk))).trans h.blk, h.r1.step ho (fun a ha => hd _ (h.r1.lt a ha).2 (h.r1.lt a ha).1), h.r2.step ho (fun a ha => hd _ (h.r2.lt a ha).2 (h.r2.lt a ha).1), h.r3.step ho (fun a ha => hd _ (h.r3.lt a ha).2 (h.r3.lt a ha).1), h.d12⟩
theorem BkMs.mono (h : BkMs w ok q b A1 A2 A3 n1 n2 n3 c1 c2 c3) (ho : ∀ k, ok k → ok' k) : BkMs w ok' q b A1 A2 A3 n1 n2 n3 c1 c2 c3 := ⟨ho _ h.okq, h.blk, h.r1.mono ho, h.r2.mono ho, h.r3.mono ho, h.d12⟩
theorem BkMs.below (h : BkMs w ok q b A1 A2 A3 n1 n2 n3 c1 c2 c3) (hb : Below w.heap.size w w') : BkMs w' ok q b A1 A2 A3 n1 n2 n3 c1 c2 c3 := h.step (Only.of_below (ok := fun _ => False) hb) (fun _ _ _ h => h)
theorem BkAt.step (h : BkAt w ok q b) (ho : Only ok' w w') (hd : ∀ k, ok k → k < w.heap.size → ¬ ok' k) : BkAt w' ok q b := by obtain ⟨A1, A2, A3, n1, n2, n3, c1, c2, c3, h⟩ := h; exact ⟨A1, A2, A3, n1, n2, n3, c1, c2, c3, h.step ho hd⟩
theorem BkAt.mono (h : BkAt w ok q b) (ho : ∀ k, ok k → ok' k) : BkAt w ok' q b := by obtain ⟨A1, A2, A3, n1, n2, n3, c1, c2, c3, h⟩ := h; exact ⟨A1, A2, A3, n1, n2, n3, c1, c2, c3, h.mono ho⟩
theorem BkAt.below (h : BkAt w ok q b) (hb : Below w.heap.size w w') : BkAt w' ok q b := h.step (Only.of_below (ok := fun _ => False) hb) (fun _ _ _ h => h)
theorem BkMs.q1 (h : BkMs w ok q b A1 A2 A3 n1 n2 n3 c1 c2 c3) (a : Addr) (ha : A1 = some a) : a.block ≠ q := by
  rcases h.r1.row with ⟨e, _⟩ | ⟨g, cur, e, _, hg, _⟩
  · rw [e] at ha; cases ha
  · rw [e] at ha
    obtain rfl := Option.some.inj ha
    exact fun e2 => by have e3 : g = q := e2; subst e3; rw [h.blk] at hg; injection hg with hg; injection hg with _ hg; exact absurd hg (by decide)
theorem BkMs.q2 (h : BkMs w ok q b A1 A2 A3 n1 n2 n3 c1 c2 c3) (a : Addr) (ha : A2 = some a) : a.block ≠ q := by
  rcases h.r2.row with ⟨e, _⟩ | ⟨g, cur, e, _, hg, _⟩
  · rw [e] at ha; cases ha
  · rw [e] at ha
    obtain rfl := Option.some.inj ha
    exact fun e2 => by have e3 : g = q := e2; subst e3; rw [h.blk] at hg; injection hg with hg; injection hg with _ hg; exact absurd hg (by decide)
theorem BkMs.q3 (h : BkMs w ok q b A1 A2 A3 n1 n2 n3 c1 c2 c3) (a : Addr) (ha : A3 = some a) : a.block ≠ q := by
  rcases h.r3.row with ⟨e, _⟩ | ⟨g, cur, e, _, hg, _⟩
  · rw [e] at ha; cases ha
  · rw [e] at ha
    obtain rfl := Option.some.inj ha
    exact fun e2 => by have e3 : g = q := e2; subst e3; rw [h.blk] at hg; injection hg with hg; injection hg with _ hg; exact absurd hg (by decide)
theorem apartTI {A B : Option Addr} {m m' c d : Nat} {xs : List T} {ys : List Int} (h : Own eT w ok A m' c xs) (h2 : Own eI w ok' B m d ys) (a a' : Addr) (ha : A = some a) (ha' : B = some a') : a.block ≠ a'.block := by
  rcases h.row with ⟨e, _⟩ | ⟨g, cur, e, _, hg, _⟩
  · rw [e] at ha; cases ha
  · rcases h2.row with ⟨e', _⟩ | ⟨g', cur', e', _, hg', _⟩
    · rw [e'] at ha'; cases ha'
    · rw [e] at ha; rw [e'] at ha'
      obtain rfl := Option.some.inj ha
      obtain rfl := Option.some.inj ha'
      exact fun e2 => by have e3 : g = g' := e2; subst e3; rw [hg'] at hg; injection hg with hg; injection hg with _ hg; exact absurd hg (by decide)
theorem heap_not {w : World} {q o k : Nat} {u : Value} (h : k ≠ q) : (w.setCell ⟨q, o, none⟩ u).heap[k]? = w.heap[k]? := Below.heap_setCell w ⟨q, o, none⟩ u k h
theorem BkMs.put1 {w4 : World} {A' : Option Addr} {n' c' : Nat} {xs : List T} (h : BkMs w ok q b A1 A2 A3 n1 n2 n3 c1 c2 c3) (hr : Own eT w4 (okx ok w w4) A' n' c' xs) (ho : Only (fun k => ∃ a, A1 = some a ∧ k = a.block) w w4) (hA : ∀ a, A' = some a → A1 = A' ∨ w.heap.size ≤ a.block) :
    BkMs (w4.setCell ⟨q, 0, none⟩ (.slice A' n' c')) (okx ok w w4) q { b with names := xs } A' A2 A3 n' n2 n3 c' c2 c3 ∧ Only ok w (w4.setCell ⟨q, 0, none⟩ (.slice A' n' c')) := by
  have hq : w4.heap[q]? = _ := (ho.block q (blk_lt h.blk) (fun ⟨a, ha, e⟩ => h.q1 a ha e.symm)).trans h.blk
  refine ⟨⟨.inl h.okq, blk_set hq 0 _, hr.move (fun a ha => heap_not (fun e => ?_)), (h.r2.step ho (fun a ha ⟨a', ha', e⟩ => h.d12 a' a ha' ha e.symm)).mono (fun _ hk => .inl hk) |>.move (fun a ha => heap_not (h.q2 a ha)),
    (h.r3.step ho (fun a ha ⟨a', ha', e⟩ => apartTI h.r1 h.r3 a' a ha' ha e.symm)).mono (fun _ hk => .inl hk) |>.move (fun a ha => heap_not (h.q3 a ha)), fun a a' ha ha' e => ?_⟩, ?_⟩
  · rcases hA a ha with h2 | h2
    · exact h.q1 a (h2.trans ha) e
    · have := blk_lt h.blk; omega
  · rcases hA a ha with h2 | h2
    · exact h.d12 a a' (h2.trans ha) ha' e
    · have := (h.r2.lt a' ha').1; omega
  · exact (ho.mono (fun k ⟨a, ha, e⟩ => by rw [e]; exact (h.r1.lt a ha).2)).set 0 (.inl h.okq) _
theorem BkMs.put2 {w4 : World} {A' : Option Addr} {n' c' : Nat} {xs : List T} (h : BkMs w ok q b A1 A2 A3 n1 n2 n3 c1 c2 c3) (hr : Own eT w4 (okx ok w w4) A' n' c' xs) (ho : Only (fun k => ∃ a, A2 = some a ∧ k = a.block) w w4) (hA : ∀ a, A' = some a → A2 = A' ∨ w.heap.size ≤ a.block) :
    BkMs (w4.setCell ⟨q, 1, none⟩ (.slice A' n' c')) (okx ok w w4) q { b with bytes := xs } A1 A' A3 n1 n' n3 c1 c' c3 ∧ Only ok w (w4.setCell ⟨q, 1, none⟩ (.slice A' n' c')) := by
  have hq : w4.heap[q]? = _ := (ho.block q (blk_lt h.blk) (fun ⟨a, ha, e⟩ => h.q2 a ha e.symm)).trans h.blk
  refine ⟨⟨.inl h.okq, blk_set hq 1 _, (h.r1.step ho (fun a ha ⟨a', ha', e⟩ => h.d12 a a' ha ha' e)).mono (fun _ hk => .inl hk) |>.move (fun a ha => heap_not (h.q1 a ha)), hr.move (fun a ha => heap_not (fun e => ?_)),
    (h.r3.step ho (fun a ha ⟨a', ha', e⟩ => apartTI h.r2 h.r3 a' a ha' ha e.symm)).mono (fun _ hk => .inl hk) |>.move (fun a ha => heap_not (h.q3 a ha)), fun a a' ha ha' e => ?_⟩, ?_⟩
  · rcases hA a ha with h2 | h2
    · exact h.q2 a (h2.trans ha) e
    · have := blk_lt h.blk; omega
  · rcases hA a' ha' with h2 | h2
    · exact h.d12 a a' ha (h2.trans ha') e
    · have := (h.r1.lt a ha).1; omega
  · exact (ho.mono (fun k ⟨a, ha, e⟩ => by rw [e]; exact (h.r2.lt a ha).2)).set 1 (.inl h.okq) _
theorem BkMs.put3 {w4 : World} {A' : Option Addr} {n' c' : Nat} {xs : List Int} (h : BkMs w ok q b A1 A2 A3 n1 n2 n3 c1 c2 c3) (hr : Own eI w4 (okx ok w w4) A' n' c' xs) (ho : Only (fun k => ∃ a, A3 = some a ∧ k = a.block) w w4) (hA : ∀ a, A' = some a → A3 = A' ∨ w.heap.size ≤ a.block) :
    BkMs (w4.setCell ⟨q, 2, none⟩ (.slice A' n' c')) (okx ok w w4) q { b with syn := xs } A1 A2 A' n1 n2 n' c1 c2 c' ∧ Only ok w (w4.setCell ⟨q, 2, none⟩ (.slice A' n' c')) := by
  have hq : w4.heap[q]? = _ := (ho.block q (blk_lt h.blk) (fun ⟨a, ha, e⟩ => h.q3 a ha e.symm)).trans h.blk
  refine ⟨⟨.inl h.okq, blk_set hq 2 _, (h.r1.step ho (fun a ha ⟨a', ha', e⟩ => apartTI h.r1 h.r3 a a' ha ha' e)).mono (fun _ hk => .inl hk) |>.move (fun a ha => heap_not (h.q1 a ha)),
    (h.r2.step ho (fun a ha ⟨a', ha', e⟩ => apartTI h.r2 h.r3 a a' ha ha' e)).mono (fun _ hk => .inl hk) |>.move (fun a ha => heap_not (h.q2 a ha)), hr.move (fun a ha => heap_not (fun e => ?_)), fun a a' ha ha' e => h.d12 a a' ha ha' e⟩, ?_⟩
  · rcases hA a ha with h2 | h2
    · exact h.q3 a (h2.trans ha) e
    · have := blk_lt h.blk; omega
  · exact (ho.mono (fun k ⟨a, ha, e⟩ => by rw [e]; exact (h.r3.lt a ha).2)).set 2 (.inl h.okq) _
end
def idxT (names : List T) (s : T) : Int := match names.findIdx? (fun t => decide (t = s)) with | some i => i | none => -1
theorem idxT_stop {names : List T} {s : T} {i : Nat} (hi : i < names.length) (hn : ∀ j, j < i → names.getD j [] ≠ s) (h : names.getD i [] = s) : idxT names s = i := by
  unfold idxT
  have : names.findIdx? (fun t => decide (t = s)) = some i := by
    rw [List.findIdx?_eq_some_iff_getElem]
    refine ⟨hi, ?_, fun j hj => ?_⟩
    · rw [List.getD_eq_getElem?_getD, List.getElem?_eq_getElem hi] at h
      exact decide_eq_true h
    · have := hn j hj
      rw [List.getD_eq_getElem?_getD, List.getElem?_eq_getElem (by omega)] at this
      simpa using this
  rw [this]
theorem idxT_none {names : List T} {s : T} (hn : ∀ j, j < names.length → names.getD j [] ≠ s) : idxT names s = -1 := by
  unfold idxT
  have : names.findIdx? (fun t => decide (t = s)) = none := by
    rw [List.findIdx?_eq_none_iff]
    intro x hx
    obtain ⟨j, hj, rfl⟩ := List.mem_iff_getElem.1 hx
    have := hn j hj
    rw [List.getD_eq_getElem?_getD, List.getElem?_eq_getElem hj] at this
    simpa using this
  rw [this]
theorem wrapN {k : Nat} (h : k < 1000000) : wrap64 ((k : Int) + 1) = ((k + 1 : Nat) : Int) := by
  unfold wrap64
  omega
inductive RelAt (w : World) (s : T) (names : List T) (v : Value) (w' : World) : Prop
  | mk (i : Nat) (e : v = .int .i64 i) (hi : i ≤ names.length) (hn : ∀ j, j < i → names.getD j [] ≠ s) (hb : Below w.heap.size w w')
set_option maxRecDepth 100000 in
set_option maxHeartbeats 1600000 in
theorem at_calls (w : World) (ok : Nat → Prop) (q : Nat) (b : BS) (s : T) (h : BkAt w ok q b) (hlen : b.names.length < 1000000) :
    Calls Try.prog 37 #[.pointer (some ⟨q, 0, none⟩), .string (bs s)] w fun e w' => e = .returned (.int .i64 (idxT b.names s)) ∧ Below w.heap.size w w' := by
  obtain ⟨A1, A2, A3, n1, n2, n3, c1, c2, c3, h⟩ := h
  obtain rfl : b.names.length = n1 := h.r1.len
  have HH := Aside0.mk h
  have HM := Aside0.mk hlen
  clear h hlen
  go_enter Try.func37, Try.ntmps37
  go_wp2_with fail
  go_loopw [5] (fun v5 w' => RelAt w s b.names v5 w') (fun v5 _ => b.names.length - (intOf v5).toNat)
  case atStart => exact .mk 0 rfl (Nat.zero_le _) (fun j hj => by omega) (Below.refl _ _)
  case round =>
    obtain ⟨i, rfl, hi, hn, hb⟩ := hrel
    have HB := Aside0.mk hb
    have HN := Aside0.mk hn
    have h1 := HH.out.below hb
    have hq : wr.cell? ⟨q, 0, none⟩ = some (.slice A1 b.names.length c1) := (blk_cell h1.blk 0).trans rfl
    clear hb hn
    by_cases hlt : i < b.names.length
    · obtain ⟨ad, rfl, hc⟩ := at_text (Own.reads eT_ok h1.r1) i hlt
      have hii : (i : Int) < (b.names.length : Int) := by omega
      have HW := Aside0.mk (wrapN (k := i) (by have := HM.out; omega))
      have HStop := Aside0.mk (fun (h : b.names.getD i [] = s) => idxT_stop hlt HN.out h)
      have HY := Aside0.mk (show (b.names.getD i [] ≠ s → ∀ j, j < i + 1 → b.names.getD j [] ≠ s) from fun h j hj => by
        rcases Nat.lt_succ_iff_lt_or_eq.1 hj with h2 | rfl
        · exact HN.out j h2
        · exact h)
      generalize b.names.getD i [] = y at *
      clear h1
      by_cases he : y = s
      · have hcmp : ((bs y).toList == (bs s).toList) = true := by rw [Ext.eq_dec, bs_data, bs_data]; exact decide_eq_true he
        have HE := Aside0.mk (HStop.out he)
        clear HStop HY he
        go_wp2_with fail
        go_ret
        exact ⟨by rw [HE.out]; rfl, HB.out⟩
      · have hcmp : ((bs y).toList == (bs s).toList) = false := by rw [Ext.eq_dec, bs_data, bs_data]; exact decide_eq_false he
        have HE := Aside0.mk (HY.out he)
        clear HStop HY he
        go_wp2_with fail
        go_roundw
        case rel => exact .mk (i + 1) (by rw [HW.out]) (by omega) HE.out HB.out
        case measure => rw [HW.out]; simp [intOf]; omega
    · obtain rfl : i = b.names.length := by omega
      have hii : ¬ (b.names.length : Int) < (b.names.length : Int) := by omega
      have HE := Aside0.mk (idxT_none HN.out)
      clear hlt hi h1
      go_wp2_with fail
      go_ret
      exact ⟨by rw [HE.out]; rfl, HB.out⟩
end Go.Proofs.Ytabomfmjepmkjaa.Dk
end

section
namespace Go.Proofs.Ytabomfmjepmkjaa.Dk
set_option linter.unusedVariables false
set_option linter.unusedSimpArgs false
open Go.RowKit Go.Proofs.YtabomfmjepmkjaaW.PrintWords Go.Proofs.YtabomfmjepmkjaaW.PrintLast Go.Proofs.YtabomfmjepmkjaaW.PrintMore Go.Proofs.Ytabomfmjepmkjaa.Lib Go.Proofs.Ytabomfmjepmkjaa.Mem Go.Proofs.Ytabomfmjepmkjaa.Txt
open Go.MapKept Go.ChangeMaps
theorem run_append_ {o : Oper} {a : Act} {W w1 : World} {v v1 v2 : Value} {sx x : Operand} {ts : Array TypeId} (hop : o.op = .call { callee := .builtin .append, args := #[sx, x], argTypes := ts }) (hs : a.eval sx = v1) (hx : a.eval x = v2)
    (hrun : (Builtin.append_ ts o.type #[v1, v2]).run Try.prog W = .ok v w1) : (execOp a.eval o).run Try.prog W = .ok (.value v) w1 := by
  simp [execOp, hop, resolve, invoke, builtin, hs, hx, hrun, Result.andThen]
theorem drew_below (w : World) : Below w.heap.size w w.drew := below_drew (Below.refl _ _)
theorem okx_drew {ok : Nat → Prop} {w w1 w4 : World} {u : Value} {a : Addr} (hs : w.heap.size ≤ w1.heap.size) (h41 : w1.heap.size ≤ w4.heap.size) {k : Nat} (hk : okx (okx ok w w1) w1.drew w4 k) : okx ok w (w4.setCell a u) k := by
  have e1 : w1.drew.heap.size = w1.heap.size := rfl
  have e2 : (w4.setCell a u).heap.size = w4.heap.size := by simp [World.setCell]
  rcases hk with (h | h) | h
  · exact .inl h
  · exact .inr ⟨h.1, by omega⟩
  · exact .inr ⟨by omega, by omega⟩
set_option maxRecDepth 100000 in
set_option maxHeartbeats 3200000 in
theorem out_calls (w : World) (ok : Nat → Prop) (q : Nat) (b : BS) (A1 A2 A3 : Option Addr) (n c1 c2 c3 i : Nat) (h : BkMs w ok q b A1 A2 A3 n n n c1 c2 c3) (hi : i < n) (hlen : n < 1000000) :
    Calls Try.prog 38 #[.pointer (some ⟨q, 0, none⟩), .int .i64 i] w fun e w' => e = .returned (.tuple #[]) ∧ BkAt w' (okx ok w w') q ⟨b.names.eraseIdx i, b.bytes.eraseIdx i, b.syn.eraseIdx i⟩ ∧ Only ok w w' := by
  have HB0 := Aside0.mk (show BkMs w (okx ok w w) q b A1 A2 A3 n n n c1 c2 c3 from h.mono (fun _ hk => .inl hk))
  have HO0 := Aside0.mk (Only.refl ok w)
  have HN := Aside0.mk hlen
  have hw : wrap64 ((i : Int) + 1) = (i : Int) + 1 := by rw [wrapN (by omega)]; rfl
  have hw0 : (0 : Int) ≤ (i : Int) + 1 := by omega
  have hw1 : (i : Int) + 1 ≤ (n : Int) := by omega
  have hc1 : i ≤ c1 := by have := h.r1.cap; omega
  have hc2 : i ≤ c2 := by have := h.r2.cap; omega
  have hc3 : i ≤ c3 := by have := h.r3.cap; omega
  obtain ⟨w0, hw00⟩ : ∃ x, x = w := ⟨_, rfl⟩
  have HI := Aside0.mk hi
  clear h hlen hi
  go_enter Try.func38, Try.ntmps38
  go_wp2_with fail
  have d0 : w.cell? ⟨q, 0, none⟩ = some (.slice A1 n c1) := (blk_cell HB0.out.blk 0).trans rfl
  have f0 := blk_frozen HB0.out.blk 0
  refine start_ (n := 19) (S := fun w' => w'.cell? ⟨q, 0, none⟩ = some (.slice A1 n c1) ∧ w'.frozen? ⟨q, 0, none⟩ = false) (ds := [18]) #[false, false, false, false, false, false, false, false, false, false, false, false, false, false, false, false, false, false, false] (by kernel_rfl) rfl rfl ⟨d0, f0⟩ (fun hHeld => ?_)
  refine pure_ (i := 0) (N := some 4) (v := ?_) (a' := ?_) #[true, false, false, false, false, false, false, false, false, false, false, false, false, false, false, false, false, false, false] rfl rfl (by kernel_rfl) (fun _ _ _ h => h) (Or.inl ⟨by rfl, ?_⟩) ?_ ?_
  rotate_left
  · intro w'
    go_simp
    with_reducible rfl
  rotate_left
  · simp only [Act.put, List.setIfInBounds_toArray, List.set_cons_zero, List.set_cons_succ, i64_w, i32_w]
    rfl
  refine pure_ (i := 1) (N := some 5) (v := ?_) (a' := ?_) #[true, true, false, false, false, false, false, false, false, false, false, false, false, false, false, false, false, false, false] rfl rfl (by kernel_rfl) (fun _ _ _ h => h) (Or.inl ⟨by rfl, ?_⟩) ?_ ?_
  rotate_left
  · intro w'
    go_simp
    with_reducible rfl
  rotate_left
  · simp only [Act.put, List.setIfInBounds_toArray, List.set_cons_zero, List.set_cons_succ, i64_w, i32_w]
    rfl
  refine pure_ (i := 2) (N := some 6) (v := ?_) (a' := ?_) #[true, true, true, false, false, false, false, false, false, false, false, false, false, false, false, false, false, false, false] rfl rfl (by kernel_rfl) (fun _ _ _ h => h) (Or.inl ⟨by rfl, ?_⟩) ?_ ?_
  rotate_left
  · intro w'
    go_simp
    with_reducible rfl
  rotate_left
  · simp only [Act.put, List.setIfInBounds_toArray, List.set_cons_zero, List.set_cons_succ, i64_w, i32_w]
    rfl
  refine pure_ (i := 3) (N := some 7) (v := ?_) (a' := ?_) #[true, true, true, true, false, false, false, false, false, false, false, false, false, false, false, false, false, false, false] rfl rfl (by kernel_rfl) (fun _ _ _ h => h) (Or.inl ⟨by rfl, ?_⟩) ?_ ?_
  rotate_left
  · intro w'
    go_simp
    with_reducible rfl
  rotate_left
  · simp only [Act.put, List.setIfInBounds_toArray, List.set_cons_zero, List.set_cons_succ, i64_w, i32_w]
    rfl
  refine pure_ (i := 5) (N := some 9) (v := ?_) (a' := ?_) #[true, true, true, true, false, true, false, false, false, false, false, false, false, false, false, false, false, false, false] rfl rfl (by kernel_rfl) (fun _ _ _ h => h) (Or.inl ⟨by rfl, ?_⟩) ?_ ?_
  rotate_left
  · intro w'
    go_simp
    with_reducible rfl
  rotate_left
  · simp only [Act.put, List.setIfInBounds_toArray, List.set_cons_zero, List.set_cons_succ, i64_w, i32_w]
    rfl
  refine pure_ (i := 6) (N := some 10) (v := ?_) (a' := ?_) #[true, true, true, true, false, true, true, false, false, false, false, false, false, false, false, false, false, false, false] rfl rfl (by kernel_rfl) (fun _ _ _ h => h) (Or.inl ⟨by rfl, ?_⟩) ?_ ?_
  rotate_left
  · intro w'
    go_simp
    with_reducible rfl
  rotate_left
  · simp only [Act.put, List.setIfInBounds_toArray, List.set_cons_zero, List.set_cons_succ, i64_w, i32_w]
    rfl
  refine pure_ (i := 8) (N := some 12) (v := ?_) (a' := ?_) #[true, true, true, true, false, true, true, false, true, false, false, false, false, false, false, false, false, false, false] rfl rfl (by kernel_rfl) (fun _ _ _ h => h) (Or.inl ⟨by rfl, ?_⟩) ?_ ?_
  rotate_left
  · intro w'
    go_simp
    with_reducible rfl
  rotate_left
  · simp only [Act.put, List.setIfInBounds_toArray, List.set_cons_zero, List.set_cons_succ, i64_w, i32_w]
    rfl
  refine pure_ (i := 9) (N := some 13) (v := ?_) (a' := ?_) #[true, true, true, true, false, true, true, false, true, true, false, false, false, false, false, false, false, false, false] rfl rfl (by kernel_rfl) (fun _ _ _ h => h) (Or.inl ⟨by rfl, ?_⟩) ?_ ?_
  rotate_left
  · intro w'
    go_simp
    with_reducible rfl
  rotate_left
  · simp only [Act.put, List.setIfInBounds_toArray, List.set_cons_zero, List.set_cons_succ, i64_w, i32_w]
    rfl
  refine pure_ (i := 10) (N := some 14) (v := ?_) (a' := ?_) #[true, true, true, true, false, true, true, false, true, true, true, false, false, false, false, false, false, false, false] rfl rfl (by kernel_rfl) (fun _ _ _ h => h) (Or.inl ⟨by rfl, ?_⟩) ?_ ?_
  rotate_left
  · intro w'
    go_simp
    with_reducible rfl
  rotate_left
  · simp only [Act.put, List.setIfInBounds_toArray, List.set_cons_zero, List.set_cons_succ, i64_w, i32_w]
    rfl
  refine pure_ (i := 12) (N := some 16) (v := ?_) (a' := ?_) #[true, true, true, true, false, true, true, false, true, true, true, false, true, false, false, false, false, false, false] rfl rfl (by kernel_rfl) (fun _ _ _ h => h) (Or.inl ⟨by rfl, ?_⟩) ?_ ?_
  rotate_left
  · intro w'
    go_simp
    with_reducible rfl
  rotate_left
  · simp only [Act.put, List.setIfInBounds_toArray, List.set_cons_zero, List.set_cons_succ, i64_w, i32_w]
    rfl
  refine pure_ (i := 13) (N := some 17) (v := ?_) (a' := ?_) #[true, true, true, true, false, true, true, false, true, true, true, false, true, true, false, false, false, false, false] rfl rfl (by kernel_rfl) (fun _ _ _ h => h) (Or.inl ⟨by rfl, ?_⟩) ?_ ?_
  rotate_left
  · intro w'
    go_simp
    with_reducible rfl
  rotate_left
  · simp only [Act.put, List.setIfInBounds_toArray, List.set_cons_zero, List.set_cons_succ, i64_w, i32_w]
    rfl
  refine take_ (i := 4) (N := some 8) (v := ?_) (a' := ?_) #[true, true, true, true, true, true, true, false, true, true, true, false, true, true, false, false, false, false, false] rfl rfl (by kernel_rfl) (fun _ _ _ h => h) (Or.inl ⟨by rfl, ?_⟩) hHeld ?_ ?_
  rotate_left
  · rintro w' ⟨s0, s1⟩
    go_simp
    with_reducible rfl
  rotate_left
  · simp only [Act.put, List.setIfInBounds_toArray, List.set_cons_zero, List.set_cons_succ, i64_w, i32_w]
    rfl
  refine pure_ (i := 7) (N := some 11) (v := ?_) (a' := ?_) #[true, true, true, true, true, true, true, true, true, true, true, false, true, true, false, false, false, false, false] rfl rfl (by kernel_rfl) (fun _ _ _ h => h) (Or.inl ⟨by rfl, ?_⟩) ?_ ?_
  rotate_left
  · intro w'
    go_simp
    with_reducible rfl
  rotate_left
  · simp only [Act.put, List.setIfInBounds_toArray, List.set_cons_zero, List.set_cons_succ, i64_w, i32_w]
    rfl
  refine take_ (i := 11) (N := some 15) (v := ?_) (a' := ?_) #[true, true, true, true, true, true, true, true, true, true, true, true, true, true, false, false, false, false, false] rfl rfl (by kernel_rfl) (fun _ _ _ h => h) (Or.inl ⟨by rfl, ?_⟩) hHeld ?_ ?_
  rotate_left
  · rintro w' ⟨s0, s1⟩
    go_simp
    with_reducible rfl
  rotate_left
  · simp only [Act.put, List.setIfInBounds_toArray, List.set_cons_zero, List.set_cons_succ, i64_w, i32_w]
    rfl
  refine pure_ (i := 14) (N := some 18) (v := ?_) (a' := ?_) #[true, true, true, true, true, true, true, true, true, true, true, true, true, true, true, false, false, false, false] rfl rfl (by kernel_rfl) (fun _ _ _ h => h) (Or.inl ⟨by rfl, ?_⟩) ?_ ?_
  rotate_left
  · intro w'
    go_simp
    with_reducible rfl
  rotate_left
  · simp only [Act.put, List.setIfInBounds_toArray, List.set_cons_zero, List.set_cons_succ, i64_w, i32_w]
    rfl
  refine one_ (i := 15) (N := some 19) #[true, true, true, true, true, true, true, true, true, true, true, true, true, true, true, true, false, false, false] rfl rfl (by kernel_rfl) (by decide) (fun K hK => ?_)
  have hBd := HB0.out.below (drew_below w)
  obtain ⟨A4, c4, w4, hrun, hr, ho, hA⟩ := cut_out eT_ok 36 hBd.r1 i HI.out HN.out
  have HP := Aside0.mk (hBd.put1 hr ho hA)
  have HS := Aside0.mk (show w.heap.size ≤ w4.heap.size from ho.size)
  have d0' : w4.cell? ⟨q, 0, none⟩ = some (.slice A1 n c1) := (blk_cell ((ho.block q (blk_lt hBd.blk) (fun ⟨a, ha, e⟩ => hBd.q1 a ha e.symm)).trans hBd.blk) 0).trans rfl
  have f0' : w4.frozen? ⟨q, 0, none⟩ = false := blk_frozen ((ho.block q (blk_lt hBd.blk) (fun ⟨a, ha, e⟩ => hBd.q1 a ha e.symm)).trans hBd.blk) 0
  clear hBd hr ho hA
  refine value_ (w1 := w4) (v := .slice A4 (n - 1) c4) (by rfl) rfl ?_ ?_
  · exact run_append_ rfl rfl rfl hrun
  clear hrun
  refine hK.out _ _ ⟨d0', f0'⟩ (fun hHeld => ?_)
  clear hK K
  refine norm_ (a' := ?_) ?_ ?_
  rotate_left
  · show Act.put _ (some 19) _ = _
    simp only [Act.put, List.setIfInBounds_toArray, List.set_cons_zero, List.set_cons_succ, i64_w, i32_w]
    rfl
  refine pure_ (i := 16) (N := some 20) (v := ?_) (a' := ?_) #[true, true, true, true, true, true, true, true, true, true, true, true, true, true, true, true, true, false, false] rfl rfl (by kernel_rfl) (fun _ _ _ h => h) (Or.inl ⟨by rfl, ?_⟩) ?_ ?_
  rotate_left
  · intro w'
    go_simp
    with_reducible rfl
  rotate_left
  · simp only [Act.put, List.setIfInBounds_toArray, List.set_cons_zero, List.set_cons_succ, i64_w, i32_w]
    rfl
  refine pure_ (i := 17) (N := some 21) (v := ?_) (a' := ?_) #[true, true, true, true, true, true, true, true, true, true, true, true, true, true, true, true, true, true, false] rfl rfl (by kernel_rfl) (fun _ _ _ h => h) (Or.inl ⟨by rfl, ?_⟩) ?_ ?_
  rotate_left
  · intro w'
    go_simp
    with_reducible rfl
  rotate_left
  · simp only [Act.put, List.setIfInBounds_toArray, List.set_cons_zero, List.set_cons_succ, i64_w, i32_w]
    rfl
  refine last_ (i := 18) (N := none) #[true, true, true, true, true, true, true, true, true, true, true, true, true, true, true, true, true, true, true] rfl rfl (by kernel_rfl) (by decide) (fun K hK => ?_)
  refine skip_ (w1 := ?_) (by rfl) rfl ?_ ?_
  rotate_left
  · go_simp
    rfl
  refine hK.out _ _ ?_
  clear hK K
  refine done_ (by kernel_rfl) ?_
  clear hHeld d0 f0 d0' f0'
  generalize (if c1 = i + 1 then A1 else Option.map (fun x => { block := x.block, off := x.off + (i + 1) }) A1) = X1 at *
  obtain ⟨hm, hon⟩ := HP.out
  have HB1 := Aside0.mk (hm.mono (ok' := okx ok w (w4.setCell ⟨q, 0, none⟩ (.slice A4 (n - 1) c4))) (fun j hj => okx_drew HO0.out.size HS.out hj))
  have HO1 := Aside0.mk (HO0.out.drew.trans hon (fun j hj => hj.imp id (fun h => h.1)))
  clear hm hon HP HS
  generalize w4.setCell ⟨q, 0, none⟩ (.slice A4 (n - 1) c4) = w1 at *
  go_wp2_with fail
  have d1 : w1.cell? ⟨q, 1, none⟩ = some (.slice A2 n c2) := (blk_cell HB1.out.blk 1).trans rfl
  have f1 := blk_frozen HB1.out.blk 1
  refine start_ (n := 19) (S := fun w' => w'.cell? ⟨q, 1, none⟩ = some (.slice A2 n c2) ∧ w'.frozen? ⟨q, 1, none⟩ = false) (ds := [18]) #[false, false, false, false, false, false, false, false, false, false, false, false, false, false, false, false, false, false, false] (by kernel_rfl) rfl rfl ⟨d1, f1⟩ (fun hHeld => ?_)
  refine pure_ (i := 0) (N := some 22) (v := ?_) (a' := ?_) #[true, false, false, false, false, false, false, false, false, false, false, false, false, false, false, false, false, false, false] rfl rfl (by kernel_rfl) (fun _ _ _ h => h) (Or.inl ⟨by rfl, ?_⟩) ?_ ?_
  rotate_left
  · intro w'
    go_simp
    with_reducible rfl
  rotate_left
  · simp only [Act.put, List.setIfInBounds_toArray, List.set_cons_zero, List.set_cons_succ, i64_w, i32_w]
    rfl
  refine pure_ (i := 1) (N := some 23) (v := ?_) (a' := ?_) #[true, true, false, false, false, false, false, false, false, false, false, false, false, false, false, false, false, false, false] rfl rfl (by kernel_rfl) (fun _ _ _ h => h) (Or.inl ⟨by rfl, ?_⟩) ?_ ?_
  rotate_left
  · intro w'
    go_simp
    with_reducible rfl
  rotate_left
  · simp only [Act.put, List.setIfInBounds_toArray, List.set_cons_zero, List.set_cons_succ, i64_w, i32_w]
    rfl
  refine pure_ (i := 2) (N := some 24) (v := ?_) (a' := ?_) #[true, true, true, false, false, false, false, false, false, false, false, false, false, false, false, false, false, false, false] rfl rfl (by kernel_rfl) (fun _ _ _ h => h) (Or.inl ⟨by rfl, ?_⟩) ?_ ?_
  rotate_left
  · intro w'
    go_simp
    with_reducible rfl
  rotate_left
  · simp only [Act.put, List.setIfInBounds_toArray, List.set_cons_zero, List.set_cons_succ, i64_w, i32_w]
    rfl
  refine pure_ (i := 3) (N := some 25) (v := ?_) (a' := ?_) #[true, true, true, true, false, false, false, false, false, false, false, false, false, false, false, false, false, false, false] rfl rfl (by kernel_rfl) (fun _ _ _ h => h) (Or.inl ⟨by rfl, ?_⟩) ?_ ?_
  rotate_left
  · intro w'
    go_simp
    with_reducible rfl
  rotate_left
  · simp only [Act.put, List.setIfInBounds_toArray, List.set_cons_zero, List.set_cons_succ, i64_w, i32_w]
    rfl
  refine pure_ (i := 5) (N := some 27) (v := ?_) (a' := ?_) #[true, true, true, true, false, true, false, false, false, false, false, false, false, false, false, false, false, false, false] rfl rfl (by kernel_rfl) (fun _ _ _ h => h) (Or.inl ⟨by rfl, ?_⟩) ?_ ?_
  rotate_left
  · intro w'
    go_simp
    with_reducible rfl
  rotate_left
  · simp only [Act.put, List.setIfInBounds_toArray, List.set_cons_zero, List.set_cons_succ, i64_w, i32_w]
    rfl
  refine pure_ (i := 6) (N := some 28) (v := ?_) (a' := ?_) #[true, true, true, true, false, true, true, false, false, false, false, false, false, false, false, false, false, false, false] rfl rfl (by kernel_rfl) (fun _ _ _ h => h) (Or.inl ⟨by rfl, ?_⟩) ?_ ?_
  rotate_left
  · intro w'
    go_simp
    with_reducible rfl
  rotate_left
  · simp only [Act.put, List.setIfInBounds_toArray, List.set_cons_zero, List.set_cons_succ, i64_w, i32_w]
    rfl
  refine pure_ (i := 8) (N := some 30) (v := ?_) (a' := ?_) #[true, true, true, true, false, true, true, false, true, false, false, false, false, false, false, false, false, false, false] rfl rfl (by kernel_rfl) (fun _ _ _ h => h) (Or.inl ⟨by rfl, ?_⟩) ?_ ?_
  rotate_left
  · intro w'
    go_simp
    with_reducible rfl
  rotate_left
  · simp only [Act.put, List.setIfInBounds_toArray, List.set_cons_zero, List.set_cons_succ, i64_w, i32_w]
    rfl
  refine pure_ (i := 9) (N := some 31) (v := ?_) (a' := ?_) #[true, true, true, true, false, true, true, false, true, true, false, false, false, false, false, false, false, false, false] rfl rfl (by kernel_rfl) (fun _ _ _ h => h) (Or.inl ⟨by rfl, ?_⟩) ?_ ?_
  rotate_left
  · intro w'
    go_simp
    with_reducible rfl
  rotate_left
  · simp only [Act.put, List.setIfInBounds_toArray, List.set_cons_zero, List.set_cons_succ, i64_w, i32_w]
    rfl
  refine pure_ (i := 10) (N := some 32) (v := ?_) (a' := ?_) #[true, true, true, true, false, true, true, false, true, true, true, false, false, false, false, false, false, false, false] rfl rfl (by kernel_rfl) (fun _ _ _ h => h) (Or.inl ⟨by rfl, ?_⟩) ?_ ?_
  rotate_left
  · intro w'
    go_simp
    with_reducible rfl
  rotate_left
  · simp only [Act.put, List.setIfInBounds_toArray, List.set_cons_zero, List.set_cons_succ, i64_w, i32_w]
    rfl
  refine pure_ (i := 12) (N := some 34) (v := ?_) (a' := ?_) #[true, true, true, true, false, true, true, false, true, true, true, false, true, false, false, false, false, false, false] rfl rfl (by kernel_rfl) (fun _ _ _ h => h) (Or.inl ⟨by rfl, ?_⟩) ?_ ?_
  rotate_left
  · intro w'
    go_simp
    with_reducible rfl
  rotate_left
  · simp only [Act.put, List.setIfInBounds_toArray, List.set_cons_zero, List.set_cons_succ, i64_w, i32_w]
    rfl
  refine pure_ (i := 13) (N := some 35) (v := ?_) (a' := ?_) #[true, true, true, true, false, true, true, false, true, true, true, false, true, true, false, false, false, false, false] rfl rfl (by kernel_rfl) (fun _ _ _ h => h) (Or.inl ⟨by rfl, ?_⟩) ?_ ?_
  rotate_left
  · intro w'
    go_simp
    with_reducible rfl
  rotate_left
  · simp only [Act.put, List.setIfInBounds_toArray, List.set_cons_zero, List.set_cons_succ, i64_w, i32_w]
    rfl
  refine take_ (i := 4) (N := some 26) (v := ?_) (a' := ?_) #[true, true, true, true, true, true, true, false, true, true, true, false, true, true, false, false, false, false, false] rfl rfl (by kernel_rfl) (fun _ _ _ h => h) (Or.inl ⟨by rfl, ?_⟩) hHeld ?_ ?_
  rotate_left
  · rintro w' ⟨s0, s1⟩
    go_simp
    with_reducible rfl
  rotate_left
  · simp only [Act.put, List.setIfInBounds_toArray, List.set_cons_zero, List.set_cons_succ, i64_w, i32_w]
    rfl
  refine pure_ (i := 7) (N := some 29) (v := ?_) (a' := ?_) #[true, true, true, true, true, true, true, true, true, true, true, false, true, true, false, false, false, false, false] rfl rfl (by kernel_rfl) (fun _ _ _ h => h) (Or.inl ⟨by rfl, ?_⟩) ?_ ?_
  rotate_left
  · intro w'
    go_simp
    with_reducible rfl
  rotate_left
  · simp only [Act.put, List.setIfInBounds_toArray, List.set_cons_zero, List.set_cons_succ, i64_w, i32_w]
    rfl
  refine take_ (i := 11) (N := some 33) (v := ?_) (a' := ?_) #[true, true, true, true, true, true, true, true, true, true, true, true, true, true, false, false, false, false, false] rfl rfl (by kernel_rfl) (fun _ _ _ h => h) (Or.inl ⟨by rfl, ?_⟩) hHeld ?_ ?_
  rotate_left
  · rintro w' ⟨s0, s1⟩
    go_simp
    with_reducible rfl
  rotate_left
  · simp only [Act.put, List.setIfInBounds_toArray, List.set_cons_zero, List.set_cons_succ, i64_w, i32_w]
    rfl
  refine pure_ (i := 14) (N := some 36) (v := ?_) (a' := ?_) #[true, true, true, true, true, true, true, true, true, true, true, true, true, true, true, false, false, false, false] rfl rfl (by kernel_rfl) (fun _ _ _ h => h) (Or.inl ⟨by rfl, ?_⟩) ?_ ?_
  rotate_left
  · intro w'
    go_simp
    with_reducible rfl
  rotate_left
  · simp only [Act.put, List.setIfInBounds_toArray, List.set_cons_zero, List.set_cons_succ, i64_w, i32_w]
    rfl
  refine one_ (i := 15) (N := some 37) #[true, true, true, true, true, true, true, true, true, true, true, true, true, true, true, true, false, false, false] rfl rfl (by kernel_rfl) (by decide) (fun K hK => ?_)
  have hBd := HB1.out.below (drew_below w1)
  obtain ⟨A5, c5, w5, hrun, hr, ho, hA⟩ := cut_out eT_ok 36 hBd.r2 i HI.out HN.out
  have HP := Aside0.mk (hBd.put2 hr ho hA)
  have HS := Aside0.mk (show w1.heap.size ≤ w5.heap.size from ho.size)
  have d1' : w5.cell? ⟨q, 1, none⟩ = some (.slice A2 n c2) := (blk_cell ((ho.block q (blk_lt hBd.blk) (fun ⟨a, ha, e⟩ => hBd.q2 a ha e.symm)).trans hBd.blk) 1).trans rfl
  have f1' : w5.frozen? ⟨q, 1, none⟩ = false := blk_frozen ((ho.block q (blk_lt hBd.blk) (fun ⟨a, ha, e⟩ => hBd.q2 a ha e.symm)).trans hBd.blk) 1
  clear hBd hr ho hA
  refine value_ (w1 := w5) (v := .slice A5 (n - 1) c5) (by rfl) rfl ?_ ?_
  · exact run_append_ rfl rfl rfl hrun
  clear hrun
  refine hK.out _ _ ⟨d1', f1'⟩ (fun hHeld => ?_)
  clear hK K
  refine norm_ (a' := ?_) ?_ ?_
  rotate_left
  · show Act.put _ (some 37) _ = _
    simp only [Act.put, List.setIfInBounds_toArray, List.set_cons_zero, List.set_cons_succ, i64_w, i32_w]
    rfl
  refine pure_ (i := 16) (N := some 38) (v := ?_) (a' := ?_) #[true, true, true, true, true, true, true, true, true, true, true, true, true, true, true, true, true, false, false] rfl rfl (by kernel_rfl) (fun _ _ _ h => h) (Or.inl ⟨by rfl, ?_⟩) ?_ ?_
  rotate_left
  · intro w'
    go_simp
    with_reducible rfl
  rotate_left
  · simp only [Act.put, List.setIfInBounds_toArray, List.set_cons_zero, List.set_cons_succ, i64_w, i32_w]
    rfl
  refine pure_ (i := 17) (N := some 39) (v := ?_) (a' := ?_) #[true, true, true, true, true, true, true, true, true, true, true, true, true, true, true, true, true, true, false] rfl rfl (by kernel_rfl) (fun _ _ _ h => h) (Or.inl ⟨by rfl, ?_⟩) ?_ ?_
  rotate_left
  · intro w'
    go_simp
    with_reducible rfl
  rotate_left
  · simp only [Act.put, List.setIfInBounds_toArray, List.set_cons_zero, List.set_cons_succ, i64_w, i32_w]
    rfl
  refine last_ (i := 18) (N := none) #[true, true, true, true, true, true, true, true, true, true, true, true, true, true, true, true, true, true, true] rfl rfl (by kernel_rfl) (by decide) (fun K hK => ?_)
  refine skip_ (w1 := ?_) (by rfl) rfl ?_ ?_
  rotate_left
  · go_simp
    rfl
  refine hK.out _ _ ?_
  clear hK K
  refine done_ (by kernel_rfl) ?_
  clear hHeld d1 f1 d1' f1'
  generalize (if c2 = i + 1 then A2 else Option.map (fun x => { block := x.block, off := x.off + (i + 1) }) A2) = X2 at *
  obtain ⟨hm, hon⟩ := HP.out
  have HB2 := Aside0.mk (hm.mono (ok' := okx ok w (w5.setCell ⟨q, 1, none⟩ (.slice A5 (n - 1) c5))) (fun j hj => okx_drew HO1.out.size HS.out hj))
  have HO2 := Aside0.mk (HO1.out.drew.trans hon (fun j hj => hj.imp id (fun h => h.1)))
  clear hm hon HP HS
  generalize w5.setCell ⟨q, 1, none⟩ (.slice A5 (n - 1) c5) = w2 at *
  go_wp2_with fail
  have d2 : w2.cell? ⟨q, 2, none⟩ = some (.slice A3 n c3) := (blk_cell HB2.out.blk 2).trans rfl
  have f2 := blk_frozen HB2.out.blk 2
  refine start_ (n := 19) (S := fun w' => w'.cell? ⟨q, 2, none⟩ = some (.slice A3 n c3) ∧ w'.frozen? ⟨q, 2, none⟩ = false) (ds := [18]) #[false, false, false, false, false, false, false, false, false, false, false, false, false, false, false, false, false, false, false] (by kernel_rfl) rfl rfl ⟨d2, f2⟩ (fun hHeld => ?_)
  refine pure_ (i := 0) (N := some 40) (v := ?_) (a' := ?_) #[true, false, false, false, false, false, false, false, false, false, false, false, false, false, false, false, false, false, false] rfl rfl (by kernel_rfl) (fun _ _ _ h => h) (Or.inl ⟨by rfl, ?_⟩) ?_ ?_
  rotate_left
  · intro w'
    go_simp
    with_reducible rfl
  rotate_left
  · simp only [Act.put, List.setIfInBounds_toArray, List.set_cons_zero, List.set_cons_succ, i64_w, i32_w]
    rfl
  refine pure_ (i := 1) (N := some 41) (v := ?_) (a' := ?_) #[true, true, false, false, false, false, false, false, false, false, false, false, false, false, false, false, false, false, false] rfl rfl (by kernel_rfl) (fun _ _ _ h => h) (Or.inl ⟨by rfl, ?_⟩) ?_ ?_
  rotate_left
  · intro w'
    go_simp
    with_reducible rfl
  rotate_left
  · simp only [Act.put, List.setIfInBounds_toArray, List.set_cons_zero, List.set_cons_succ, i64_w, i32_w]
    rfl
  refine pure_ (i := 2) (N := some 42) (v := ?_) (a' := ?_) #[true, true, true, false, false, false, false, false, false, false, false, false, false, false, false, false, false, false, false] rfl rfl (by kernel_rfl) (fun _ _ _ h => h) (Or.inl ⟨by rfl, ?_⟩) ?_ ?_
  rotate_left
  · intro w'
    go_simp
    with_reducible rfl
  rotate_left
  · simp only [Act.put, List.setIfInBounds_toArray, List.set_cons_zero, List.set_cons_succ, i64_w, i32_w]
    rfl
  refine pure_ (i := 3) (N := some 43) (v := ?_) (a' := ?_) #[true, true, true, true, false, false, false, false, false, false, false, false, false, false, false, false, false, false, false] rfl rfl (by kernel_rfl) (fun _ _ _ h => h) (Or.inl ⟨by rfl, ?_⟩) ?_ ?_
  rotate_left
  · intro w'
    go_simp
    with_reducible rfl
  rotate_left
  · simp only [Act.put, List.setIfInBounds_toArray, List.set_cons_zero, List.set_cons_succ, i64_w, i32_w]
    rfl
  refine pure_ (i := 5) (N := some 45) (v := ?_) (a' := ?_) #[true, true, true, true, false, true, false, false, false, false, false, false, false, false, false, false, false, false, false] rfl rfl (by kernel_rfl) (fun _ _ _ h => h) (Or.inl ⟨by rfl, ?_⟩) ?_ ?_
  rotate_left
  · intro w'
    go_simp
    with_reducible rfl
  rotate_left
  · simp only [Act.put, List.setIfInBounds_toArray, List.set_cons_zero, List.set_cons_succ, i64_w, i32_w]
    rfl
  refine pure_ (i := 6) (N := some 46) (v := ?_) (a' := ?_) #[true, true, true, true, false, true, true, false, false, false, false, false, false, false, false, false, false, false, false] rfl rfl (by kernel_rfl) (fun _ _ _ h => h) (Or.inl ⟨by rfl, ?_⟩) ?_ ?_
  rotate_left
  · intro w'
    go_simp
    with_reducible rfl
  rotate_left
  · simp only [Act.put, List.setIfInBounds_toArray, List.set_cons_zero, List.set_cons_succ, i64_w, i32_w]
    rfl
  refine pure_ (i := 8) (N := some 48) (v := ?_) (a' := ?_) #[true, true, true, true, false, true, true, false, true, false, false, false, false, false, false, false, false, false, false] rfl rfl (by kernel_rfl) (fun _ _ _ h => h) (Or.inl ⟨by rfl, ?_⟩) ?_ ?_
  rotate_left
  · intro w'
    go_simp
    with_reducible rfl
  rotate_left
  · simp only [Act.put, List.setIfInBounds_toArray, List.set_cons_zero, List.set_cons_succ, i64_w, i32_w]
    rfl
  refine pure_ (i := 9) (N := some 49) (v := ?_) (a' := ?_) #[true, true, true, true, false, true, true, false, true, true, false, false, false, false, false, false, false, false, false] rfl rfl (by kernel_rfl) (fun _ _ _ h => h) (Or.inl ⟨by rfl, ?_⟩) ?_ ?_
  rotate_left
  · intro w'
    go_simp
    with_reducible rfl
  rotate_left
  · simp only [Act.put, List.setIfInBounds_toArray, List.set_cons_zero, List.set_cons_succ, i64_w, i32_w]
    rfl
  refine pure_ (i := 10) (N := some 50) (v := ?_) (a' := ?_) #[true, true, true, true, false, true, true, false, true, true, true, false, false, false, false, false, false, false, false] rfl rfl (by kernel_rfl) (fun _ _ _ h => h) (Or.inl ⟨by rfl, ?_⟩) ?_ ?_
  rotate_left
  · intro w'
    go_simp
    with_reducible rfl
  rotate_left
  · simp only [Act.put, List.setIfInBounds_toArray, List.set_cons_zero, List.set_cons_succ, i64_w, i32_w]
    rfl
  refine pure_ (i := 12) (N := some 52) (v := ?_) (a' := ?_) #[true, true, true, true, false, true, true, false, true, true, true, false, true, false, false, false, false, false, false] rfl rfl (by kernel_rfl) (fun _ _ _ h => h) (Or.inl ⟨by rfl, ?_⟩) ?_ ?_
  rotate_left
  · intro w'
    go_simp
    with_reducible rfl
  rotate_left
  · simp only [Act.put, List.setIfInBounds_toArray, List.set_cons_zero, List.set_cons_succ, i64_w, i32_w]
    rfl
  refine pure_ (i := 13) (N := some 53) (v := ?_) (a' := ?_) #[true, true, true, true, false, true, true, false, true, true, true, false, true, true, false, false, false, false, false] rfl rfl (by kernel_rfl) (fun _ _ _ h => h) (Or.inl ⟨by rfl, ?_⟩) ?_ ?_
  rotate_left
  · intro w'
    go_simp
    with_reducible rfl
  rotate_left
  · simp only [Act.put, List.setIfInBounds_toArray, List.set_cons_zero, List.set_cons_succ, i64_w, i32_w]
    rfl
  refine take_ (i := 4) (N := some 44) (v := ?_) (a' := ?_) #[true, true, true, true, true, true, true, false, true, true, true, false, true, true, false, false, false, false, false] rfl rfl (by kernel_rfl) (fun _ _ _ h => h) (Or.inl ⟨by rfl, ?_⟩) hHeld ?_ ?_
  rotate_left
  · rintro w' ⟨s0, s1⟩
    go_simp
    with_reducible rfl
  rotate_left
  · simp only [Act.put, List.setIfInBounds_toArray, List.set_cons_zero, List.set_cons_succ, i64_w, i32_w]
    rfl
  refine pure_ (i := 7) (N := some 47) (v := ?_) (a' := ?_) #[true, true, true, true, true, true, true, true, true, true, true, false, true, true, false, false, false, false, false] rfl rfl (by kernel_rfl) (fun _ _ _ h => h) (Or.inl ⟨by rfl, ?_⟩) ?_ ?_
  rotate_left
  · intro w'
    go_simp
    with_reducible rfl
  rotate_left
  · simp only [Act.put, List.setIfInBounds_toArray, List.set_cons_zero, List.set_cons_succ, i64_w, i32_w]
    rfl
  refine take_ (i := 11) (N := some 51) (v := ?_) (a' := ?_) #[true, true, true, true, true, true, true, true, true, true, true, true, true, true, false, false, false, false, false] rfl rfl (by kernel_rfl) (fun _ _ _ h => h) (Or.inl ⟨by rfl, ?_⟩) hHeld ?_ ?_
  rotate_left
  · rintro w' ⟨s0, s1⟩
    go_simp
    with_reducible rfl
  rotate_left
  · simp only [Act.put, List.setIfInBounds_toArray, List.set_cons_zero, List.set_cons_succ, i64_w, i32_w]
    rfl
  refine pure_ (i := 14) (N := some 54) (v := ?_) (a' := ?_) #[true, true, true, true, true, true, true, true, true, true, true, true, true, true, true, false, false, false, false] rfl rfl (by kernel_rfl) (fun _ _ _ h => h) (Or.inl ⟨by rfl, ?_⟩) ?_ ?_
  rotate_left
  · intro w'
    go_simp
    with_reducible rfl
  rotate_left
  · simp only [Act.put, List.setIfInBounds_toArray, List.set_cons_zero, List.set_cons_succ, i64_w, i32_w]
    rfl
  refine one_ (i := 15) (N := some 55) #[true, true, true, true, true, true, true, true, true, true, true, true, true, true, true, true, false, false, false] rfl rfl (by kernel_rfl) (by decide) (fun K hK => ?_)
  have hBd := HB2.out.below (drew_below w2)
  obtain ⟨A6, c6, w6, hrun, hr, ho, hA⟩ := cut_out eI_ok 37 hBd.r3 i HI.out HN.out
  have HP := Aside0.mk (hBd.put3 hr ho hA)
  have HS := Aside0.mk (show w2.heap.size ≤ w6.heap.size from ho.size)
  have d2' : w6.cell? ⟨q, 2, none⟩ = some (.slice A3 n c3) := (blk_cell ((ho.block q (blk_lt hBd.blk) (fun ⟨a, ha, e⟩ => hBd.q3 a ha e.symm)).trans hBd.blk) 2).trans rfl
  have f2' : w6.frozen? ⟨q, 2, none⟩ = false := blk_frozen ((ho.block q (blk_lt hBd.blk) (fun ⟨a, ha, e⟩ => hBd.q3 a ha e.symm)).trans hBd.blk) 2
  clear hBd hr ho hA
  refine value_ (w1 := w6) (v := .slice A6 (n - 1) c6) (by rfl) rfl ?_ ?_
  · exact run_append_ rfl rfl rfl hrun
  clear hrun
  refine hK.out _ _ ⟨d2', f2'⟩ (fun hHeld => ?_)
  clear hK K
  refine norm_ (a' := ?_) ?_ ?_
  rotate_left
  · show Act.put _ (some 55) _ = _
    simp only [Act.put, List.setIfInBounds_toArray, List.set_cons_zero, List.set_cons_succ, i64_w, i32_w]
    rfl
  refine pure_ (i := 16) (N := some 56) (v := ?_) (a' := ?_) #[true, true, true, true, true, true, true, true, true, true, true, true, true, true, true, true, true, false, false] rfl rfl (by kernel_rfl) (fun _ _ _ h => h) (Or.inl ⟨by rfl, ?_⟩) ?_ ?_
  rotate_left
  · intro w'
    go_simp
    with_reducible rfl
  rotate_left
  · simp only [Act.put, List.setIfInBounds_toArray, List.set_cons_zero, List.set_cons_succ, i64_w, i32_w]
    rfl
  refine pure_ (i := 17) (N := some 57) (v := ?_) (a' := ?_) #[true, true, true, true, true, true, true, true, true, true, true, true, true, true, true, true, true, true, false] rfl rfl (by kernel_rfl) (fun _ _ _ h => h) (Or.inl ⟨by rfl, ?_⟩) ?_ ?_
  rotate_left
  · intro w'
    go_simp
    with_reducible rfl
  rotate_left
  · simp only [Act.put, List.setIfInBounds_toArray, List.set_cons_zero, List.set_cons_succ, i64_w, i32_w]
    rfl
  refine last_ (i := 18) (N := none) #[true, true, true, true, true, true, true, true, true, true, true, true, true, true, true, true, true, true, true] rfl rfl (by kernel_rfl) (by decide) (fun K hK => ?_)
  refine skip_ (w1 := ?_) (by rfl) rfl ?_ ?_
  rotate_left
  · go_simp
    rfl
  refine hK.out _ _ ?_
  clear hK K
  refine done_ (by kernel_rfl) ?_
  clear hHeld d2 f2 d2' f2'
  generalize (if c3 = i + 1 then A3 else Option.map (fun x => { block := x.block, off := x.off + (i + 1) }) A3) = X3 at *
  obtain ⟨hm, hon⟩ := HP.out
  have HB3 := Aside0.mk (hm.mono (ok' := okx ok w (w6.setCell ⟨q, 2, none⟩ (.slice A6 (n - 1) c6))) (fun j hj => okx_drew HO2.out.size HS.out hj))
  have HO3 := Aside0.mk (HO2.out.drew.trans hon (fun j hj => hj.imp id (fun h => h.1)))
  clear hm hon HP HS
  generalize w6.setCell ⟨q, 2, none⟩ (.slice A6 (n - 1) c6) = w3 at *
  go_wp2_with fail
  go_end0
  exact ⟨rfl, ⟨_, _, _, _, _, _, _, _, _, HB3.out⟩, HO3.out⟩
end Go.Proofs.Ytabomfmjepmkjaa.Dk
end

section
namespace Go.Proofs.Ytabomfmjepmkjaa.Dk
set_option linter.unusedVariables false
set_option linter.unusedSimpArgs false
open Go.RowKit Go.Proofs.YtabomfmjepmkjaaW.PrintWords Go.Proofs.YtabomfmjepmkjaaW.PrintLast Go.Proofs.YtabomfmjepmkjaaW.PrintMore Go.Proofs.Ytabomfmjepmkjaa.Lib Go.Proofs.Ytabomfmjepmkjaa.Mem Go.Proofs.Ytabomfmjepmkjaa.Txt
open Go.MapKept Go.ChangeMaps
theorem find_cases (ms : List FM) (nm : T) : (∀ m ∈ ms, m.name ≠ nm) ∨ ∃ (i : Nat) (m : FM), ms[i]? = some m ∧ m.name = nm := by
  by_cases h : ∃ m ∈ ms, m.name = nm
  · obtain ⟨m, hm, e⟩ := h
    obtain ⟨i, hi⟩ := List.mem_iff_getElem?.1 hm
    exact .inr ⟨i, m, hi, e⟩
  · exact .inl (fun m hm e => h ⟨m, hm, e⟩)
theorem idx_none {ms : List FM} {nm : T} (h : ∀ m ∈ ms, m.name ≠ nm) : (ms.map FM.abs).findIdx? (hasName nm) = none := by
  rw [List.findIdx?_eq_none_iff]
  intro x hx
  obtain ⟨m, hm, rfl⟩ := List.mem_map.1 hx
  exact decide_eq_false (h m hm)
theorem look_none {ms : List FM} {nm : T} (h : ∀ m ∈ ms, m.name ≠ nm) : look (ms.map FM.abs) nm = none := by
  unfold look
  rw [List.find?_eq_none.2 (fun x hx => ?_)]
  · rfl
  · obtain ⟨m, hm, rfl⟩ := List.mem_map.1 hx
    have : hasName nm m.abs = false := decide_eq_false (h m hm)
    rw [this]
    simp
theorem idx_some {ms : List FM} (hp : ms.Pairwise Apart) {i : Nat} {m : FM} (hi : ms[i]? = some m) : (ms.map FM.abs).findIdx? (hasName m.name) = some i := by
  obtain ⟨hil, hie⟩ := List.getElem?_eq_some_iff.1 hi
  rw [List.findIdx?_eq_some_iff_getElem]
  refine ⟨by rw [List.length_map]; exact hil, ?_, fun j hj => ?_⟩
  · rw [List.getElem_map, hie]
    exact decide_eq_true rfl
  · rw [List.getElem_map]
    have := (List.pairwise_iff_getElem.1 hp j i (by omega) hil hj).1
    rw [hie] at this
    rw [show hasName m.name (FM.abs ms[j]) = false from decide_eq_false this]
    simp
theorem find_of_idx {l : Fs} {q : T × Fv → Bool} {i : Nat} {x : T × Fv} (h : l.findIdx? q = some i) (hx : l[i]? = some x) : l.find? q = some x := by
  obtain ⟨hil, h1, h2⟩ := List.findIdx?_eq_some_iff_getElem.1 h
  obtain ⟨_, hxe⟩ := List.getElem?_eq_some_iff.1 hx
  rw [List.find?_eq_some_iff_getElem]
  rw [hxe] at h1
  exact ⟨h1, i, hil, hxe, fun j hj => by simpa using h2 j hj⟩
theorem look_some {ms : List FM} (hp : ms.Pairwise Apart) {i : Nat} {m : FM} (hi : ms[i]? = some m) : look (ms.map FM.abs) m.name = some (m.bytes, m.syn) := by
  unfold look
  rw [find_of_idx (idx_some hp hi) (by rw [List.getElem?_map, hi]; rfl)]
  rfl
theorem keys_string (ms : List FM) : ∀ x ∈ (ms.map ent).toArray.toList, IsKey .string x.key := fun x hx => by
  rw [List.toList_toArray] at hx
  obtain ⟨m, _, rfl⟩ := List.mem_map.1 hx
  trivial
theorem bs_inj {a b : T} (h : bs a = bs b) : a = b := by
  have := (bs_eq (bs a) (bs b)).1 h
  rwa [bs_data, bs_data] at this
theorem now_none {ms : List FM} {nm : T} (h : ∀ m ∈ ms, m.name ≠ nm) : Instr.findNow .string (.string (bs nm)) (ms.map ent).toArray.toList 0 = some none :=
  find_none trivial (keys_string ms) (fun x hx e => by
    rw [List.toList_toArray] at hx
    obtain ⟨m, hm, rfl⟩ := List.mem_map.1 hx
    injection e with e
    exact h m hm (bs_inj e))
theorem now_some {ms : List FM} (hp : ms.Pairwise Apart) {i : Nat} {m : FM} (hi : ms[i]? = some m) : Instr.findNow .string (.string (bs m.name)) (ms.map ent).toArray.toList 0 = some (some (i, .pointer (some ⟨m.q, 0, none⟩))) :=
  find_some (key := .string (bs m.name)) (d := .string) (e := ent m) trivial (keys_string ms) (by
    rw [List.toList_toArray]
    exact List.pairwise_map.2 (hp.imp (fun {a b} h e => h.1 (bs_inj (by injection e)))))
    (by rw [List.toList_toArray, List.getElem?_map, hi]; rfl) rfl
theorem ent_at {ms : List FM} {i : Nat} {m : FM} (hi : ms[i]? = some m) : (ms.map ent).toArray.toList[i]? = some (ent m) := by rw [List.toList_toArray, List.getElem?_map, hi]; rfl
theorem zeroP (w : World) : (zeroValue 66).run Try.prog w = .ok (.pointer none) w := by
  have h : (Try.prog.info? 66).map (·.zero) = some (some (.pointer none)) := by kernel_rfl
  cases hi : Try.prog.info? 66 with
  | none => rw [hi] at h; cases h
  | some i =>
    rw [hi] at h
    have hz : i.zero = some (.pointer none) := Option.some.inj h
    simp [zeroValue, typeInfo, hi, hz, Result.andThen]
section
variable {w w' : World} {ok ok' : Nat → Prop} {p mb clock : Nat} {s s' : DS} {ms : List FM} {m m' : FM}
theorem DkMs.look_no (h : DkMs w ok p s mb clock ms) {nm : T} (hn : ∀ m ∈ ms, m.name ≠ nm) : look s.fs nm = none := by rw [← h.abs]; exact look_none hn
theorem DkMs.look_yes (h : DkMs w ok p s mb clock ms) {i : Nat} (hi : ms[i]? = some m) : look s.fs m.name = some (m.bytes, m.syn) := by rw [← h.abs]; exact look_some h.apart hi
theorem DkMs.put_no (h : DkMs w ok p s mb clock ms) {nm : T} (hn : ∀ m ∈ ms, m.name ≠ nm) (v : Fv) : putF s.fs nm v = s.fs ++ [(nm, v)] := by unfold putF; rw [← h.abs, idx_none hn]
theorem DkMs.put_yes (h : DkMs w ok p s mb clock ms) {i : Nat} (hi : ms[i]? = some m) (v : Fv) : putF s.fs m.name v = s.fs.set i (m.name, v) := by unfold putF; rw [← h.abs, idx_some h.apart hi]
theorem DkMs.del_yes (h : DkMs w ok p s mb clock ms) {i : Nat} (hi : ms[i]? = some m) : delF s.fs m.name = s.fs.eraseIdx i := by unfold delF; rw [← h.abs, idx_some h.apart hi]
theorem DkMs.run_no (h : DkMs w ok p s mb clock ms) {nm : T} (hn : ∀ m ∈ ms, m.name ≠ nm) : (Instr.lookup 62 (.map (some mb)) (.string (bs nm)) false).run Try.prog w = .ok (.pointer none) w :=
  run_lookup_none Try.underlying62 Try.underlying9 (zeroP w) h.mblk trivial (now_none hn)
theorem DkMs.run_yes (h : DkMs w ok p s mb clock ms) {i : Nat} (hi : ms[i]? = some m) : (Instr.lookup 62 (.map (some mb)) (.string (bs m.name)) false).run Try.prog w = .ok (.pointer (some ⟨m.q, 0, none⟩)) w :=
  run_lookup_some (key := .string (bs m.name)) Try.underlying62 Try.underlying9 h.mblk trivial (now_some h.apart hi)
theorem DkMs.run_len (h : DkMs w ok p s mb clock ms) (ty : TypeId) : (Builtin.len_ #[62] ty #[.map (some mb)]).run Try.prog w = .ok (.int .i64 s.fs.length) w := by
  rw [run_maplen _ ty Try.underlying62 h.mblk, ← h.abs]
  simp
theorem DkMs.run_push (h : DkMs w ok p s mb clock ms) {nm : T} (hn : ∀ m ∈ ms, m.name ≠ nm) (v : Value) : (Instr.mapUpdate 62 (.map (some mb)) (.string (bs nm)) v).run Try.prog w = .ok () (setBlock w mb (.map ((ms.map ent).toArray.push ⟨.string (bs nm), v, clock⟩) (clock + 1))) :=
  run_update_new (key := .string (bs nm)) (d := .string) Try.underlying62 Try.underlying9 h.mblk trivial (now_none hn) v
theorem DkMs.run_swap (h : DkMs w ok p s mb clock ms) {j : Nat} {x : FM} (hj : ms[j]? = some x) (v : Value) : (Instr.mapUpdate 62 (.map (some mb)) (.string (bs x.name)) v).run Try.prog w = .ok () (setBlock w mb (.map ((ms.map ent).toArray.modify j fun e => { e with key := .string (bs x.name), val := v }) clock)) :=
  run_update_old (key := .string (bs x.name)) (d := .string) Try.underlying62 Try.underlying9 h.mblk trivial (ent_at hj) rfl (now_some h.apart hj) v
theorem DkMs.run_erase (h : DkMs w ok p s mb clock ms) {j : Nat} {x : FM} (hj : ms[j]? = some x) (ty : TypeId) : (Builtin.delete_ #[62, 9] ty #[.map (some mb), .string (bs x.name)]).run Try.prog w = .ok (.tuple #[]) (setBlock w mb (.map ((ms.map ent).toArray.eraseIdxIfInBounds j) clock)) :=
  run_delete_old (key := .string (bs x.name)) (d := .string) 9 ty Try.underlying62 Try.underlying9 h.mblk trivial (now_some h.apart hj)
theorem DkMs.at_map (h : DkMs w ok p s mb clock ms) (ms' : List FM) (clock' : Nat) (hf : ∀ m ∈ ms', FAt w ok m) (hap : ms'.Pairwise Apart) (hb : ∀ m ∈ ms', m.born < clock') :
    DkMs (setBlock w mb (.map (ms'.map ent).toArray clock')) ok p { s with fs := ms'.map FM.abs } mb clock' ms' :=
  ⟨rfl, h.okp, h.okm, (set_other w mb p _ h.p_mb).trans h.blk, set_heap w mb _ (blk_lt h.mblk), fun m hm => (hf m hm).step (set_other w mb _ _ (ne_kind (hf m hm).blk h.mblk (fun e => by cases e))) (fun a ha => set_other w mb _ _ (by
    obtain ⟨cur, h2⟩ := row_blk (hf m hm).row a ha
    exact ne_kind h2 h.mblk (fun e => by cases e))) (fun _ hk => hk), hap, hb⟩
theorem FAt.at_map {es : Array MapEntry} (hf : FAt w ok m) (hb : w.heap[mb]? = some (.map es clock)) (o : Obj) : FAt (setBlock w mb o) ok m :=
  hf.step (set_other w mb _ _ (ne_kind hf.blk hb (fun e => by cases e))) (fun a ha => set_other w mb _ _ (by
    obtain ⟨cur, h2⟩ := row_blk hf.row a ha
    exact ne_kind h2 hb (fun e => by cases e))) (fun _ hk => hk)
def Loose (ms : List FM) (m : FM) : Prop := ∀ x ∈ ms, x.q ≠ m.q ∧ ∀ a b, x.A = some a → m.A = some b → a.block ≠ b.block
theorem DkMs.push (h : DkMs w ok p s mb clock ms) (hf : FAt w ok m) (hb : m.born = clock) (hl : Loose ms m) (hn : ∀ x ∈ ms, x.name ≠ m.name) :
    DkMs (setBlock w mb (.map ((ms.map ent).toArray.push (ent m)) (clock + 1))) ok p { s with fs := s.fs ++ [m.abs] } mb (clock + 1) (ms ++ [m]) := by
  have := h.at_map (ms ++ [m]) (clock + 1) (fun x hx => by
      rcases List.mem_append.1 hx with hx | hx
      · exact h.files x hx
      · rw [List.mem_singleton.1 hx]; exact hf)
    (List.pairwise_append.2 ⟨h.apart, List.pairwise_singleton _ _, fun x hx y hy => by
      rw [List.mem_singleton.1 hy]
      exact ⟨hn x hx, by have := h.born x hx; omega, (hl x hx).1, (hl x hx).2⟩⟩)
    (fun x hx => by
      rcases List.mem_append.1 hx with hx | hx
      · have := h.born x hx; omega
      · rw [List.mem_singleton.1 hx]; omega)
  rw [List.map_append, List.map_append, h.abs] at this
  simpa using this
theorem DkMs.swap (h : DkMs w ok p s mb clock ms) {j : Nat} {x : FM} (hj : ms[j]? = some x) (hf : FAt w ok m) (hn : m.name = x.name) (hb : m.born = x.born) (hl : Loose ms m) :
    DkMs (setBlock w mb (.map ((ms.map ent).toArray.modify j fun e => { e with key := .string (bs x.name), val := .pointer (some ⟨m.q, 0, none⟩) }) clock)) ok p { s with fs := s.fs.set j m.abs } mb clock (ms.set j m) := by
  obtain ⟨hjl, hje⟩ := List.getElem?_eq_some_iff.1 hj
  have hap : ∀ a, ∀ (ha : a < ms.length), a ≠ j → Apart ms[a] m := fun a ha hne => by
    have hax : Apart ms[a] x := by
      rw [← hje]
      rcases Nat.lt_or_gt_of_ne hne with hlt | hlt
      · exact List.pairwise_iff_getElem.1 h.apart a j ha hjl hlt
      · exact (List.pairwise_iff_getElem.1 h.apart j a hjl ha hlt).symm
    exact ⟨by rw [hn]; exact hax.1, by rw [hb]; exact hax.2.1, (hl _ (List.getElem_mem ha)).1, (hl _ (List.getElem_mem ha)).2⟩
  have := h.at_map (ms.set j m) clock (fun y hy => by
      rcases List.mem_or_eq_of_mem_set hy with hy | rfl
      · exact h.files y hy
      · exact hf)
    (List.pairwise_iff_getElem.2 (fun a b ha hb2 hab => by
      rw [List.length_set] at ha hb2
      rw [List.getElem_set, List.getElem_set]
      by_cases e1 : j = a
      · rw [if_pos e1, if_neg (by omega)]
        exact (hap b hb2 (by omega)).symm
      · rw [if_neg e1]
        by_cases e2 : j = b
        · rw [if_pos e2]
          exact hap a ha (by omega)
        · rw [if_neg e2]
          exact List.pairwise_iff_getElem.1 h.apart a b ha hb2 hab))
    (fun y hy => by
      rcases List.mem_or_eq_of_mem_set hy with hy | rfl
      · exact h.born y hy
      · rw [hb]; exact h.born x (List.mem_of_getElem? hj))
  have e : (ms.map ent).toArray.modify j (fun e => { e with key := .string (bs x.name), val := .pointer (some ⟨m.q, 0, none⟩) }) = ((ms.set j m).map ent).toArray := by
    apply Array.ext'
    apply List.ext_getElem?
    intro i
    rw [Array.getElem?_toList, Array.getElem?_modify, List.toList_toArray, List.map_set, List.getElem?_set, List.getElem?_toArray]
    by_cases hij : j = i
    · subst hij
      rw [if_pos rfl, if_pos rfl, List.getElem?_map, hj, List.length_map, if_pos hjl]
      unfold ent
      rw [hn, hb]
      rfl
    · rw [if_neg hij, if_neg hij]
  rw [e]
  have e2 : (ms.set j m).map FM.abs = s.fs.set j m.abs := by rw [List.map_set, h.abs]
  rw [e2] at this
  exact this
theorem DkMs.erase (h : DkMs w ok p s mb clock ms) (i : Nat) : DkMs (setBlock w mb (.map ((ms.map ent).toArray.eraseIdxIfInBounds i) clock)) ok p { s with fs := s.fs.eraseIdx i } mb clock (ms.eraseIdx i) := by
  have := h.at_map (ms.eraseIdx i) clock (fun y hy => h.files y (List.mem_of_mem_eraseIdx hy)) (h.apart.sublist (List.eraseIdx_sublist _ _)) (fun y hy => h.born y (List.mem_of_mem_eraseIdx hy))
  have e : (ms.map ent).toArray.eraseIdxIfInBounds i = ((ms.eraseIdx i).map ent).toArray := by
    apply Array.ext'
    unfold Array.eraseIdxIfInBounds
    split
    · rw [Array.toList_eraseIdx, List.toList_toArray, List.toList_toArray, map_eraseIdx]
    · rename_i hlt
      rw [List.eraseIdx_of_length_le (by simpa using hlt)]
  rw [e]
  have e2 : (ms.eraseIdx i).map FM.abs = s.fs.eraseIdx i := by rw [map_eraseIdx, h.abs]
  rw [e2] at this
  exact this
theorem DkMs.loose (h : DkMs w ok p s mb clock ms) {i : Nat} (hi : ms[i]? = some m) : Loose (ms.eraseIdx i) m ∧ (∀ x ∈ ms.eraseIdx i, x.name ≠ m.name) := by
  obtain ⟨hil, hie⟩ := List.getElem?_eq_some_iff.1 hi
  have key : ∀ x ∈ ms.eraseIdx i, Apart x m := fun x hx => by
    obtain ⟨j, hne, hj⟩ := List.mem_eraseIdx_iff_getElem?.1 hx
    obtain ⟨hjl, hje⟩ := List.getElem?_eq_some_iff.1 hj
    rw [← hje, ← hie]
    rcases Nat.lt_or_gt_of_ne hne with hlt | hlt
    · exact List.pairwise_iff_getElem.1 h.apart j i hjl hil hlt
    · exact (List.pairwise_iff_getElem.1 h.apart i j hil hjl hlt).symm
  exact ⟨fun x hx => ⟨(key x hx).2.2.1, (key x hx).2.2.2⟩, fun x hx => (key x hx).1⟩
end
end Go.Proofs.Ytabomfmjepmkjaa.Dk
end

section
namespace Go.Proofs.Ytabomfmjepmkjaa.Txt
set_option linter.unusedVariables false
set_option linter.unusedSimpArgs false
open Go.RowKit Go.Proofs.YtabomfmjepmkjaaW.PrintWords Go.Proofs.YtabomfmjepmkjaaW.PrintLast Go.Proofs.YtabomfmjepmkjaaW.PrintMore Go.Proofs.Ytabomfmjepmkjaa.Lib
theorem grown_refl (w : World) (r : Option Nat) : w.grownBy w r := ⟨rfl, rfl, rfl, Nat.le_refl _, fun _ _ _ => rfl⟩
theorem grown_below {a b c : World} {r : Option Nat} (h : a.grownBy b r) (h2 : Below b.heap.size b c) : a.grownBy c r := ⟨h2.os.trans h.os, h2.tape.trans h.tape, h2.output.trans h.output, Nat.le_trans h.size h2.size, fun k hk hn => (h2.block k (Nat.lt_of_lt_of_le hk h.size)).trans (h.block k hk hn)⟩
theorem grown_trans {a b c : World} {r : Option Nat} (h : a.grownBy b r) (h2 : b.grownBy c r) : a.grownBy c r := ⟨h2.os.trans h.os, h2.tape.trans h.tape, h2.output.trans h.output, Nat.le_trans h.size h2.size, fun k hk hn => (h2.block k (Nat.lt_of_lt_of_le hk h.size) hn).trans (h.block k hk hn)⟩
def Fun (f : FuncId) : Prop := ∃ fn, Try.prog.funcs[f]? = some fn ∧ (fn.name == "runtime.NumGoroutine") = false ∧ fn.body.isSome = true
def Tells (f : FuncId) (cap : Array Value) (q : T → Bool) (ts : List T) (w : World) : Prop := ∀ t ∈ ts, Calls Try.prog f (#[] ++ #[.string (bs t)] ++ cap) w fun e w' => e = .returned (.bool (q t)) ∧ Below w.heap.size w w'
theorem getD_mem {ts : List T} {i : Nat} (h : i < ts.length) : ts.getD i [] ∈ ts := by
  rw [List.getD_eq_getElem?_getD, List.getElem?_eq_getElem h]
  exact List.getElem_mem h
inductive RelIx (w : World) (n : Nat) (ts : List T) (q : T → Bool) (v : Value) (w' : World) : Prop
  | mk (i : Nat) (e : v = .int .i64 i) (hi : i ≤ n) (hb : Below w.heap.size w w') (hz : ∀ j, j < i → q (ts.getD j []) = false)
set_option maxRecDepth 100000 in
set_option maxHeartbeats 1600000 in
theorem idx_texts (f : FuncId) (cap : Array Value) (q : T → Bool) (n c : Nat) (A : Option Addr) (ts : List T) (w : World) (hC : text.C w A n ts) (hf : Fun f) (hq : ∀ w', Below w.heap.size w w' → Tells f cap q ts w') :
    Calls Try.prog 60 #[.slice A n c, .func (.func f) #[] cap] w fun e w' => ∃ r : Int, e = .returned (.int .i64 r) ∧ Below w.heap.size w w' ∧ ((r = -1 ∧ ∀ j, j < n → q (ts.getD j []) = false) ∨ ∃ i : Nat, r = i ∧ i < n ∧ q (ts.getD i []) = true ∧ ∀ j, j < i → q (ts.getD j []) = false) := by
  have HC := Aside0.mk hC
  have hC0 := Aside0.mk (show ts.length = n from hC.1)
  have HQ := Aside0.mk hq
  have hn := hC.2.1
  obtain ⟨fn, hf1, hf2, hf3⟩ := hf
  have HF := Aside0.mk hf1
  have HNm := Aside0.mk hf2
  have HBd := Aside0.mk hf3
  clear hC hq hf1 hf2 hf3
  go_enter Try.func60, Try.ntmps60
  go_wp2_with fail
  go_loopw [8] (fun v8 w' => RelIx w n ts q v8 w') (fun v8 _ => n - (intOf v8).toNat)
  case atStart => exact .mk 0 rfl (Nat.zero_le _) (Below.refl _ _) (fun j h => absurd h (Nat.not_lt_zero _))
  case round =>
    obtain ⟨i, rfl, hi, hB, hZ⟩ := hrel
    have HB := Aside0.mk hB
    have HZ := Aside0.mk hZ
    clear hB hZ
    by_cases hlt : i < n
    · have hii : (i : Int) < (n : Int) := by omega
      obtain ⟨ad, e, hcell⟩ := at_text (Kd.C_below HC.out HB.out) i hlt
      subst e
      have HT := Aside0.mk (HQ.out wr HB.out (ts.getD i []) (getD_mem (by rw [hC0.out]; exact hlt)))
      generalize hb : q (ts.getD i []) = b at HT
      have HBq := Aside0.mk hb
      clear hb
      generalize ht : ts.getD i [] = t at *
      have HTt := Aside0.mk ht
      clear ht
      go_wp2_with (first
        | ((with_reducible refine gate_dst (N := 16) rfl ?_); refine goesLv_ (some 16) rfl rfl HF.out HNm.out HBd.out #[.string (bs t)] rfl rfl (by simp only [List.map_toArray, List.map_cons, List.map_nil]; rfl) ?_; with_reducible refine HT.out.mono ?_; rintro e w3 ⟨rfl, hb⟩; refine ⟨_, rfl, ?_⟩; have HB3 := Aside0.mk (below_then HB.out HB.out.size hb); clear hb; cases b)
        | fail)
      · go_roundw
        case rel => exact .mk (i + 1) (by go_num) (by omega) HB3.out (fun j hj => by
          by_cases e : j = i
          · subst e; rw [HTt.out]; exact HBq.out
          · exact HZ.out j (by omega))
        case measure => simp [intOf]; omega
      · go_ret
        exact ⟨i, rfl, HB3.out, .inr ⟨i, rfl, hlt, by rw [HTt.out]; exact HBq.out, HZ.out⟩⟩
    · obtain rfl : i = n := by omega
      have hii : decide (i < i) = false := decide_eq_false (by omega)
      clear hlt
      go_wp2_with fail
      go_ret
      exact ⟨-1, rfl, HB.out, .inl ⟨rfl, HZ.out⟩⟩
theorem any_getD (ts : List T) (q : T → Bool) : (∀ j, j < ts.length → q (ts.getD j []) = false) → ts.any q = false := fun h => by
  rw [List.any_eq_false]
  intro x hx
  obtain ⟨j, hj, rfl⟩ := List.getElem_of_mem hx
  have := h j hj
  rw [List.getD_eq_getElem?_getD, List.getElem?_eq_getElem hj] at this
  simpa using this
set_option maxRecDepth 100000 in
set_option maxHeartbeats 400000 in
theorem has_texts (f : FuncId) (cap : Array Value) (q : T → Bool) (n c : Nat) (A : Option Addr) (ts : List T) (w : World) (hC : text.C w A n ts) (hf : Fun f) (hq : ∀ w', Below w.heap.size w w' → Tells f cap q ts w') :
    Calls Try.prog 54 #[.slice A n c, .func (.func f) #[] cap] w fun e w' => e = .returned (.bool (ts.any q)) ∧ Below w.heap.size w w' := by
  have H := Aside0.mk (idx_texts f cap q n c A ts w hC hf hq)
  have HL := Aside0.mk (show ts.length = n from hC.1)
  clear hC hf hq
  go_enter Try.func54, Try.ntmps54
  go_wp2_with fail
  refine H.out.mono ?_
  rintro e w1 ⟨r, rfl, hb, hr⟩
  have HB := Aside0.mk hb
  have HR := Aside0.mk (show (decide (0 ≤ r) = ts.any q) from by
    rcases hr with ⟨rfl, h⟩ | ⟨i, rfl, hi, h, _⟩
    · rw [any_getD ts q (fun j hj => h j (by rw [← HL.out]; exact hj))]; rfl
    · rw [decide_eq_true (by omega), List.any_eq_true.2 ⟨ts.getD i [], ?_, h⟩]
      rw [List.getD_eq_getElem?_getD, List.getElem?_eq_getElem (by rw [HL.out]; exact hi)]
      exact List.getElem_mem _)
  clear hb hr
  go_wp2_with fail
  go_ret
  exact ⟨by rw [← HR.out]; rfl, HB.out⟩
theorem text_clear {base : Nat} {ok : Nat → Prop} {g n c : Nat} {e : TypeId} : ∀ (k i : Nat) (w : World) (xs : List T), i + k = n → text.R e w base ok (.slice (some ⟨g, 0, none⟩) n c) xs →
    ∃ ys, text.R e (w.setCells g i (List.replicate k (encStr []))) base ok (.slice (some ⟨g, 0, none⟩) n c) ys ∧ ys.take i = xs.take i ∧ w.grownBy (w.setCells g i (List.replicate k (encStr []))) (some g)
  | 0, i, w, xs, h, hr => ⟨xs, hr, rfl, grown_refl _ _⟩
  | k + 1, i, w, xs, h, hr => by
    obtain ⟨r1, g1⟩ := Kd.R_putg hr (i : Int) []
    rw [Int.toNat_natCast] at r1 g1
    obtain ⟨ys, r2, e2, g2⟩ := text_clear k (i + 1) _ _ (by omega) r1
    refine ⟨ys, r2, ?_, grown_trans g1 g2⟩
    have := congrArg (List.take i) e2
    rw [List.take_take, Nat.min_eq_left (Nat.le_succ i), List.take_take, Nat.min_eq_left (Nat.le_succ i), List.take_set_of_le (Nat.le_refl i)] at this
    exact this
theorem zero_text (w : World) : (zeroValue 9).run Try.prog w = .ok (.string ⟨#[]⟩) w := by
  have hz : Try.t9.zero = some (.string ⟨#[]⟩) := by kernel_rfl
  unfold zeroValue
  simp [hz]
theorem clear_texts (w : World) (ty : TypeId) (g o n c : Nat) (hn : 0 < n) (hc : ∀ j, j < n → (w.cell? ⟨g, o + j, none⟩).isSome = true) (hf : ∀ j, j < n → w.frozen? ⟨g, o + j, none⟩ = false) :
    (Builtin.clear_ #[36] ty #[.slice (some ⟨g, o, none⟩) n c]).run Try.prog w = .ok (.tuple #[]) (w.setCells g o (List.replicate n (encStr []))) := by
  have hz : (Builtin.zeroCells (Value.string ⟨#[]⟩).cells n).toList = List.replicate n (encStr []) := by
    unfold Builtin.zeroCells
    apply List.ext_getElem?
    intro i
    by_cases h : i < n
    · simp [h, List.getElem?_replicate, Value.cells, encStr, Nat.mod_one]
    · simp [h, List.getElem?_replicate, Value.cells]
  have hst := run_storeCells_cells (P := Try.prog) g o (List.replicate n (encStr [])) 0 w (by simpa using hc) (by simpa using hf) (by
    intro v hv
    rw [List.eq_of_mem_replicate hv]
    rfl)
  rw [Nat.add_zero] at hst
  obtain ⟨m, rfl⟩ : ∃ m, n = m + 1 := ⟨n - 1, by omega⟩
  simp [Builtin.clear_, run_underlying Try.underlying36, zero_text, hz, hst]
inductive RelDelT (w : World) (base g n c : Nat) (ok : Nat → Prop) (q : T → Bool) (xs : List T) (v1 v2 : Value) (w' : World) : Prop
  | mk (i j : Nat) (ys : List T) (e1 : v1 = .int .i64 i) (e2 : v2 = .int .i64 j) (hij : i < j) (hj : j ≤ n) (hrow : text.R 9 w' base ok (.slice (some ⟨g, 0, none⟩) n c) ys) (hg : w.grownBy w' (some g))
    (hk : ys.take i = (xs.take j).filter (fun t => !q t)) (hr : ∀ p, j ≤ p → ys.getD p [] = xs.getD p [])
theorem take_getD {xs : List T} {j : Nat} (h : j < xs.length) : xs.take (j + 1) = xs.take j ++ [xs.getD j []] := by
  rw [List.take_succ_eq_append_getElem h, List.getD_eq_getElem?_getD, List.getElem?_eq_getElem h]; rfl
theorem filter_all {q : T → Bool} {xs : List T} {i : Nat} (hi : i ≤ xs.length) (h : ∀ j, j < i → q (xs.getD j []) = false) : (xs.take i).filter (fun t => !q t) = xs.take i := by
  rw [List.filter_eq_self]
  intro t ht
  obtain ⟨j, hj, rfl⟩ := List.getElem_of_mem ht
  rw [List.length_take] at hj
  have := h j (by omega)
  rw [List.getD_eq_getElem?_getD, List.getElem?_eq_getElem (by omega)] at this
  rw [List.getElem_take]
  simpa using this
theorem getD_set_ne (ys : List T) (i j : Nat) (t : T) (h : i ≠ j) : (ys.set i t).getD j [] = ys.getD j [] := by
  rw [List.getD_eq_getElem?_getD, List.getD_eq_getElem?_getD, List.getElem?_set_ne h]
theorem getD_set_eq (ys : List T) (i : Nat) (t : T) (h : i < ys.length) : (ys.set i t).getD i [] = t := by
  rw [List.getD_eq_getElem?_getD, List.getElem?_set_self h]; rfl
theorem cell_row {w : World} {base g n c : Nat} {ok : Nat → Prop} {xs : List T} (h : text.R 9 w base ok (.slice (some ⟨g, 0, none⟩) n c) xs) (i : Nat) (hi : i < n) : w.cell? ⟨g, i, none⟩ = some (.string (bs (xs.getD i []))) := by
  have hl := (R_len h).1
  obtain ⟨A, c', e, hc, hC⟩ := Kd.R_reads h
  injection e with e1 e2 e3
  subst e1
  obtain ⟨ad, e, hcell⟩ := at_text hC i (by omega)
  obtain rfl := Option.some.inj e
  rw [add_at, Nat.zero_add] at hcell
  exact hcell
set_option maxRecDepth 100000 in
set_option maxHeartbeats 1600000 in
theorem del_texts (f : FuncId) (cap : Array Value) (q : T → Bool) (g n c : Nat) (xs : List T) (w : World) (base : Nat) (ok : Nat → Prop) (hrow : text.R 9 w base ok (.slice (some ⟨g, 0, none⟩) n c) xs) (hf : Fun f) (hq : ∀ w', w.grownBy w' (some g) → Tells f cap q xs w') :
    Calls Try.prog 41 #[.slice (some ⟨g, 0, none⟩) n c, .func (.func f) #[] cap] w fun e w' => e = .returned (.slice (some ⟨g, 0, none⟩) (xs.filter fun t => !q t).length c) ∧ text.R 9 w' base ok (.slice (some ⟨g, 0, none⟩) (xs.filter fun t => !q t).length c) (xs.filter fun t => !q t) ∧ w.grownBy w' (some g) := by
  have HR := Aside0.mk hrow
  have hl : n = xs.length := (R_len hrow).1
  have hnc : n ≤ c := by have := (Kd.R_reads' hrow).2.1; omega
  have hn : n ≤ 9223372036854775807 := by rw [hl]; exact (Kd.R_reads' hrow).2.2.2.1
  have HL := Aside0.mk hl
  have HQ := Aside0.mk hq
  have HI := Aside0.mk (idx_texts f cap q n c _ xs w (hl ▸ (Kd.R_reads' hrow).2.2) hf (fun w' hb => hq w' (grown_below (grown_refl w _) hb)))
  obtain ⟨fn, hf1, hf2, hf3⟩ := hf
  have HF := Aside0.mk hf1
  have HNm := Aside0.mk hf2
  have HBd := Aside0.mk hf3
  clear hrow hl hq hf1 hf2 hf3
  go_enter Try.func41, Try.ntmps41
  go_upto_region 2 with (first | (go_at_call 60; refine HI.out.mono ?_; rintro e w2 ⟨r, rfl, hb, hr⟩; have HB := Aside0.mk hb; have HRr := Aside0.mk hr; clear hb hr HI) | fail)
  rcases HRr.out with ⟨rfl, hall⟩ | ⟨i, rfl, hi, hz, hall⟩
  · have HA := Aside0.mk (show xs.filter (fun t => !q t) = xs by
      have := filter_all (q := q) (xs := xs) (i := xs.length) (Nat.le_refl _) (fun j hj => hall j (by rw [HL.out]; exact hj))
      rwa [List.take_length] at this)
    clear hall HRr
    go_wp2_with fail
    go_ret
    rw [HA.out, ← HL.out]
    exact ⟨rfl, Kd.R_below HR.out HB.out, grown_below (grown_refl w _) HB.out⟩
  · have hne : ((i : Int) == -1) = false := beq_eq_false_iff_ne.2 (by omega)
    have HS := Aside0.mk (show RelDelT w base g n c ok q xs (.int .i64 i) (.int .i64 (i + 1 : Nat)) w2 from .mk i (i + 1) xs rfl rfl (Nat.lt_succ_self i) hi (Kd.R_below HR.out HB.out) (grown_below (grown_refl w _) HB.out) (by
      rw [take_getD (by rw [← HL.out]; exact hi), List.filter_append, filter_all (by rw [← HL.out]; omega) hall, List.filter_cons, hz]
      simp) (fun _ _ => rfl))
    clear hall HRr hz
    go_wp2_with fail
    go_loopw [5, 6] (fun v5 v6 w' => RelDelT w base g n c ok q xs v5 v6 w') (fun _ v6 _ => n - (intOf v6).toNat)
    case atStart => exact HS.out
    case round =>
      clear HS HB HR hne hi
      obtain ⟨k, j, ys, rfl, rfl, hkj, hj, hrow, hg, hk, hr⟩ := hrel
      have HR := Aside0.mk hrow
      have HG := Aside0.mk hg
      have HK := Aside0.mk hk
      have HR2 := Aside0.mk hr
      have HYl := Aside0.mk (show ys.length = n from (R_len hrow).1.symm)
      clear hrow hg hk hr
      by_cases hlt : j < n
      · have hii : (j : Int) < (n : Int) := by omega
        have hkk : (k : Int) < (n : Int) := by omega
        have d0 := cell_row HR.out j hlt
        have c0 := cell_row HR.out k (by omega)
        have HTq := Aside0.mk (HR2.out j (Nat.le_refl _))
        have HT := Aside0.mk (show (xs.take (j + 1)).filter (fun t => !q t) = ys.take k ++ if q (ys.getD j []) = true then [] else [ys.getD j []] by
          rw [take_getD (by rw [← HL.out]; exact hlt), List.filter_append, ← HK.out, List.filter_cons, HTq.out]
          cases q (xs.getD j []) <;> rfl)
        have HP := Aside0.mk (fun (w' : World) (h : text.R 9 w' base ok (.slice (some ⟨g, 0, none⟩) n c) ys) => Kd.R_putg h (k : Int) (ys.getD j []))
        have HC := Aside0.mk (HQ.out wr HG.out (ys.getD j []) (by rw [HTq.out]; exact getD_mem (by rw [← HL.out]; exact hlt)))
        generalize hb : q (ys.getD j []) = b at HC HT
        generalize ys.getD j [] = t at *
        generalize ys.getD k [] = p at *
        have HBq := Aside0.mk hb
        clear hb
        obtain ⟨cs3, hcs3⟩ := Kd.R_typed HR.out g rfl
        have HCs := Aside0.mk hcs3
        clear hcs3
        go_wp2_with (first
          | ((with_reducible refine gate_dst (N := 28) rfl ?_); refine goesLv_ (some 28) rfl rfl HF.out HNm.out HBd.out #[.string (bs t)] rfl rfl (by simp only [List.map_toArray, List.map_cons, List.map_nil]; rfl) ?_; with_reducible refine HC.out.mono ?_; rintro e w3 ⟨rfl, hb⟩; refine ⟨_, rfl, ?_⟩; have HX3 := Aside0.mk hb; have c3 := (cell_row (Kd.R_below HR.out hb) k (by omega)); have f3 : w3.frozen? ⟨g, k, none⟩ = false := blk_frozen (blk_below HCs.out hb) k; clear hb c0 d0; cases b)
          | fail)
        · have HP3 := Aside0.mk (HP.out w3 (Kd.R_below HR.out HX3.out))
          rw [Int.toNat_natCast] at HP3
          go_roundw
          case rel =>
            exact .mk (k + 1) (j + 1) (ys.set k t) (by go_num) (by go_num) (by omega) (by omega) HP3.out.1 (grown_trans (grown_below HG.out HX3.out) HP3.out.2) (by
              rw [HT.out, take_getD (by rw [List.length_set, HYl.out]; omega), List.take_set_of_le (Nat.le_refl k), getD_set_eq _ _ _ (by rw [HYl.out]; omega)]
              rfl) (fun p hp => by rw [getD_set_ne _ _ _ _ (by omega)]; exact HR2.out p (by omega))
          case measure => simp [intOf]; omega
        · go_roundw
          case rel => exact .mk k (j + 1) ys rfl (by go_num) (by omega) (by omega) (Kd.R_below HR.out HX3.out) (grown_below HG.out HX3.out) (by rw [HT.out, if_pos rfl, List.append_nil]) (fun p hp => HR2.out p (by omega))
          case measure => simp [intOf]; omega
      · obtain rfl : j = n := by omega
        have hii : decide (j < j) = false := decide_eq_false (by omega)
        obtain ⟨cs3, hcs3⟩ := Kd.R_typed HR.out g rfl
        obtain ⟨zs, hz1, hz2, hz3⟩ := text_clear (j - k) k wr ys (by omega) HR.out
        have HZ1 := Aside0.mk hz1
        have HZ2 := Aside0.mk (hz2.trans (HK.out.trans (show _ = xs.filter (fun t => !q t) by rw [HL.out, List.take_length])))
        have HZ3 := Aside0.mk (grown_trans HG.out hz3)
        have hcl : ∀ ty, (Builtin.clear_ #[36] ty #[.slice (some ⟨g, k, none⟩) (j - k) (c - k)]).run Try.prog wr = .ok (.tuple #[]) (wr.setCells g k (List.replicate (j - k) (encStr []))) := fun ty => clear_texts wr ty g k (j - k) (c - k) (by omega) (fun p hp => by
          rw [cell_row HR.out (k + p) (by omega)]; rfl) (fun p _ => blk_frozen hcs3 _)
        have hkc : k < c := by omega
        have hkj2 : (k : Int) ≤ (j : Int) := by omega
        have HKl := Aside0.mk (show k = (xs.filter (fun t => !q t)).length by
          have := congrArg List.length (HK.out.trans (show _ = xs.filter (fun t => !q t) by rw [HL.out, List.take_length]))
          rw [List.length_take, HYl.out] at this
          omega)
        clear hz1 hz2 hz3 hlt HR HG HK HR2 HYl hcs3
        generalize wr.setCells g k (List.replicate (j - k) (encStr [])) = w5 at *
        go_wp2_with fail
        go_ret
        rw [← HKl.out, ← HZ2.out]
        exact ⟨rfl, Kd.R_take HZ1.out (by have := (R_len HZ1.out).1; omega), HZ3.out⟩
end Go.Proofs.Ytabomfmjepmkjaa.Txt
end

section
namespace Go.Proofs.Ytabomfmjepmkjaa.P
open Go.RowKit Go.Proofs.YtabomfmjepmkjaaW.PrintWords Go.Proofs.YtabomfmjepmkjaaW.PrintLast Go.Proofs.YtabomfmjepmkjaaW.PrintMore
attribute [local go_sem] max2_int min2_int max_two min_two max_three min_three max_four min_four   -- for this text's walks alone
set_option linter.unusedVariables false
set_option linter.unusedSimpArgs false
def errW : Option Int → Value
 | none => .nilIface
 | some c => .iface 0 (.int .i64 c)
theorem errW_none : errW none = .nilIface := rfl
theorem errW_some (c : Int) : errW (some c) = .iface 0 (.int .i64 c) := rfl
end Go.Proofs.Ytabomfmjepmkjaa.P
end

section
namespace Go.Proofs.Ytabomfmjepmkjaa.Ext
set_option linter.unusedVariables false
open Go.RowKit Go.Proofs.YtabomfmjepmkjaaW.PrintWords
theorem bk_ {w w' : World} {g : Nat} {o : Obj} (h : w.heap[g]? = some o)
    (k : w.heap[g]? = some o → w'.heap[g]? = some o := by intro h; (with_reducible repeat (first | refine blk_drewN ?_ _ | refine blk_drew ?_ | refine blk_alloc ?_ _)); exact h) : w'.heap[g]? = some o := k h
theorem bw_ {w W W' : World} (h : Below w.heap.size w W)
    (k : Below w.heap.size w W → Below w.heap.size w W' := by intro h; repeat (first | (with_reducible first | exact h | apply below_alloc | apply pw_below_drewN | apply below_drew1 | refine below_set ?_ (Aside0.out (by assumption))) | exact h)) : Below w.heap.size w W' := k h
theorem sz_ {w W' : World} {gb : Nat} (hg : gb = W'.heap.size) (h : Below w.heap.size w W') : w.heap.size ≤ gb := by rw [hg]; exact below_size h
theorem ne_ {W' : World} {g gb : Nat} (hg : gb = W'.heap.size) (h : g < W'.heap.size) : g ≠ gb := by rw [hg]; exact Nat.ne_of_lt h
theorem bx_ {P : Program} {ops : Array Oper} {rest : List Oper} {o : Oper} {a : Act} {Q : Exit → Act → World → Prop} {W : World} {N : Tmp} {cs : Array Value} {t : TypeId}
    (h : ∀ g, g = W.heap.size → ∀ w1, w1.heap[g]? = some (.cells cs t (0, 0)) → Below W.heap.size W w1 → wpList P ops Q rest (a.put o.dst (.pointer (some ⟨g, 0, none⟩))) w1)
    (hd : o.dst = some N := by rfl) (hgd : o.guard = none := by rfl)
    (hrun : (execOp a.eval o).run P W = .ok (.value (.pointer (some ⟨W.heap.size, 0, none⟩))) (W.alloc (.cells cs t (0, 0))) := by first | (go_simp; done) | (go_simp; rfl)) : wpList P ops Q (o :: rest) a W :=
  box_event hgd hd hrun h
end Go.Proofs.Ytabomfmjepmkjaa.Ext
end

section
namespace Go.Proofs.Ytabomfmjepmkjaa.P
open Go.RowKit Go.Proofs.YtabomfmjepmkjaaW.PrintWords Go.Proofs.YtabomfmjepmkjaaW.PrintLast Go.Proofs.YtabomfmjepmkjaaW.PrintMore
attribute [local go_sem] max2_int min2_int max_two min_two max_three min_three max_four min_four   -- for this text's walks alone
set_option linter.unusedVariables false
set_option linter.unusedSimpArgs false
open Go.Proofs.Ytabomfmjepmkjaa.Ext (q1_ q2_ q3_ bk_ bw_ sz_ ne_ bx_)
attribute [local go_sem high] Go.Proofs.Ytabomfmjepmkjaa.Ext.gtr_str Go.Proofs.Ytabomfmjepmkjaa.Ext.leq_str Go.Proofs.Ytabomfmjepmkjaa.Ext.geq_str
def disk_named.l0 : Nat → ByteArray → Int → Int → Option (Bool)
 | 0, _, _, _ => none
 | k + 1, x0, x5, x6 => if x6 < x5 then (if 0 ≤ x6 then (if x6 < (x0.size : Int) then (if (bt x0 x6) < 33 then (some false) else (if (bt x0 x6) > 126 then (some false) else (disk_named.l0 k x0 x5 (wrap64 (x6 + 1))))) else (none)) else (none)) else (if (x0.size : Int) > 0 then (some (decide ((x0.size : Int) ≤ 64))) else (some false))
def disk_named.f (k : Nat) (a0 : ByteArray) : Option (Bool) := disk_named.l0 k a0 (a0.size : Int) 0
set_option maxHeartbeats 8000000 in
set_option maxRecDepth 100000 in
theorem disk_named.calls (k : Nat) (a0 : ByteArray) (r : Bool) (w : World) (h : disk_named.f k a0 = some r) :
  Calls Try.prog 56 #[.string a0] w fun e w' => e = .returned (.bool r) ∧ Drawn0 w w' := by
 have H : (disk_named.l0 k a0 (a0.size : Int) 0) = some r := h
 clear h
 have H' := Aside0.mk H
 clear H
 go_enter Try.func56, Try.ntmps56
 go_wp2
 go_loopg [6] k (fun kq v6 w' => ∃ (x6_1 : Int), v6 = .int .i64 x6_1 ∧ Aside0 (disk_named.l0 kq a0 (a0.size : Int) x6_1 = some r) ∧ Aside0 (kq ≤ k) ∧ Drawn0 w w')
 case atStart => exact ⟨(0), (by first | rfl | (simp; done) | (simp [*]; done)), H', ⟨Nat.le_refl _⟩, by repeat (first | exact Drawn0.refl _ | apply Drawn0.step)⟩
 case round =>
  clear H'
  obtain ⟨x6_1, rfl, HA, HK1, ⟨m1, rfl⟩⟩ := hrel
  cases gk with
  | zero => exact absurd HA.out (by simp [disk_named.l0])
  | succ k1 =>
   have H := HA.out
   clear HA
   simp only [disk_named.l0] at H
   by_cases c2 : x6_1 < (a0.size : Int)
   ·rw [if_pos c2] at H
    have c2b0 : decide (x6_1 < (a0.size : Int)) = true := decide_eq_true c2
    clear c2
    by_cases c3 : 0 ≤ x6_1
    ·rw [if_pos c3] at H
     have c3b0 : decide (0 ≤ x6_1) = true := decide_eq_true c3
     clear c3
     by_cases c4 : x6_1 < (a0.size : Int)
     ·rw [if_pos c4] at H
      have c4b0 : decide (x6_1 < (a0.size : Int)) = true := decide_eq_true c4
      clear c4
      by_cases c6 : (bt a0 x6_1) < 33
      ·rw [if_pos c6] at H
       have c6b0 : decide ((bt a0 x6_1) < 33) = true := decide_eq_true c6
       clear c6
       obtain rfl := Option.some.inj H
       have p5 : 0 ≤ (x6_1 : Int) := of_decide_eq_true (by assumption)
       have q5 : x6_1 < (a0.size : Int) := of_decide_eq_true (by assumption)
       have hx5 := bt_at a0 x6_1
       replace p5 := eq_true p5
       replace q5 := eq_true q5
       go_wp2
       go_ret
       exact ⟨by first | rfl | (simp; done) | (simp [*]; done), by repeat (first | exact Drawn0.refl _ | apply Drawn0.step)⟩
      ·rw [if_neg c6] at H
       have c6b0 : decide ((bt a0 x6_1) < 33) = false := decide_eq_false c6
       clear c6
       by_cases c8 : (bt a0 x6_1) > 126
       ·rw [if_pos c8] at H
        have c8b0 : decide (126 < (bt a0 x6_1)) = true := decide_eq_true c8
        clear c8
        obtain rfl := Option.some.inj H
        have p5 : 0 ≤ (x6_1 : Int) := of_decide_eq_true (by assumption)
        have q5 : x6_1 < (a0.size : Int) := of_decide_eq_true (by assumption)
        have hx5 := bt_at a0 x6_1
        replace p5 := eq_true p5
        replace q5 := eq_true q5
        have p7 : 0 ≤ (x6_1 : Int) := of_decide_eq_true (by assumption)
        have q7 : x6_1 < (a0.size : Int) := of_decide_eq_true (by assumption)
        have hx7 := bt_at a0 x6_1
        replace p7 := eq_true p7
        replace q7 := eq_true q7
        go_wp2
        go_ret
        exact ⟨by first | rfl | (simp; done) | (simp [*]; done), by repeat (first | exact Drawn0.refl _ | apply Drawn0.step)⟩
       ·rw [if_neg c8] at H
        have c8b0 : decide (126 < (bt a0 x6_1)) = false := decide_eq_false c8
        clear c8
        have H' := Aside0.mk H
        clear H
        have p5 : 0 ≤ (x6_1 : Int) := of_decide_eq_true (by assumption)
        have q5 : x6_1 < (a0.size : Int) := of_decide_eq_true (by assumption)
        have hx5 := bt_at a0 x6_1
        replace p5 := eq_true p5
        replace q5 := eq_true q5
        have p7 : 0 ≤ (x6_1 : Int) := of_decide_eq_true (by assumption)
        have q7 : x6_1 < (a0.size : Int) := of_decide_eq_true (by assumption)
        have hx7 := bt_at a0 x6_1
        replace p7 := eq_true p7
        replace q7 := eq_true q7
        go_wp2
        go_roundg k1
        case measure => have := HK1.out; omega
        case rel => exact ⟨(wrap64 (x6_1 + 1)), (by first | rfl | (simp; done) | (simp [*]; done)), H', ⟨by have := HK1.out; omega⟩, by repeat (first | exact Drawn0.refl _ | apply Drawn0.step)⟩
     ·rw [if_neg c4] at H
      exact absurd H (by simp)
    ·rw [if_neg c3] at H
     exact absurd H (by simp)
   ·rw [if_neg c2] at H
    have c2b0 : decide (x6_1 < (a0.size : Int)) = false := decide_eq_false c2
    clear c2
    by_cases c9 : (a0.size : Int) > 0
    ·rw [if_pos c9] at H
     have c9b0 : decide (0 < (a0.size : Int)) = true := decide_eq_true c9
     have c9b1 : decide (0 < a0.size) = true := decide_eq_true (by omega)
     clear c9
     obtain rfl := Option.some.inj H
     go_wp2
     go_ret
     exact ⟨by first | rfl | (simp; done) | (simp [*]; done), by repeat (first | exact Drawn0.refl _ | apply Drawn0.step)⟩
    ·rw [if_neg c9] at H
     have c9b0 : decide (0 < (a0.size : Int)) = false := decide_eq_false c9
     have c9b1 : decide (0 < a0.size) = false := decide_eq_false (by omega)
     clear c9
     obtain rfl := Option.some.inj H
     go_wp2
     go_ret
     exact ⟨by first | rfl | (simp; done) | (simp [*]; done), by repeat (first | exact Drawn0.refl _ | apply Drawn0.step)⟩
def gristmilllaw12_abs.f (a0 : Int) : Option (Int) := if a0 < 0 then (some (wrap64 (-(wrap64 (a0 + 1))))) else (some a0)
set_option maxHeartbeats 8000000 in
set_option maxRecDepth 100000 in
theorem gristmilllaw12_abs.calls (a0 : Int) (r : Int) (w : World) (h : gristmilllaw12_abs.f a0 = some r) :
  Calls Try.prog 14 #[.int .i64 a0] w fun e w' => e = .returned (.int .i64 r) ∧ Drawn0 w w' := by
 have H : (if a0 < 0 then (some (wrap64 (-(wrap64 (a0 + 1))))) else (some a0)) = some r := h
 clear h
 by_cases c2 : a0 < 0
 ·rw [if_pos c2] at H
  have c2b0 : decide (a0 < 0) = true := decide_eq_true c2
  clear c2
  obtain rfl := Option.some.inj H
  go_enter Try.func14, Try.ntmps14
  go_wp2
  go_ret
  exact ⟨by first | rfl | (simp; done) | (simp [*]; done), by repeat (first | exact Drawn0.refl _ | apply Drawn0.step)⟩
 ·rw [if_neg c2] at H
  have c2b0 : decide (a0 < 0) = false := decide_eq_false c2
  clear c2
  obtain rfl := Option.some.inj H
  go_enter Try.func14, Try.ntmps14
  go_wp2
  go_ret
  exact ⟨by first | rfl | (simp; done) | (simp [*]; done), by repeat (first | exact Drawn0.refl _ | apply Drawn0.step)⟩
def gristmilllaw12_name.f (a0 : Int) : Option (ByteArray) := (some (([(⟨#[97]⟩ : ByteArray), (⟨#[98]⟩ : ByteArray), (⟨#[97, 98]⟩ : ByteArray), (⟨#[97, 47, 49]⟩ : ByteArray), (⟨#[122]⟩ : ByteArray)] : List ByteArray) : List ByteArray)).bind fun y105 => ((gristmilllaw12_abs.f a0).bind fun t108 => (if 0 ≤ (Int.tmod t108 5) then (if (Int.tmod t108 5) < (y105.length : Int) then (some (rdOf ByteArray.empty y105 (Int.tmod t108 5))) else (none)) else (none)))
set_option maxHeartbeats 8000000 in
set_option maxRecDepth 100000 in
theorem gristmilllaw12_name.calls (a0 : Int) (r : ByteArray) (w : World) (h : gristmilllaw12_name.f a0 = some r) :
  Calls Try.prog 36 #[.int .i64 a0] w fun e w' => e = .returned (.string r) ∧ Below w.heap.size w w' := by
 have HB := Aside0.mk (Below.refl w.heap.size w)
 have H : ((some (([(⟨#[97]⟩ : ByteArray), (⟨#[98]⟩ : ByteArray), (⟨#[97, 98]⟩ : ByteArray), (⟨#[97, 47, 49]⟩ : ByteArray), (⟨#[122]⟩ : ByteArray)] : List ByteArray) : List ByteArray)).bind fun y105 => ((gristmilllaw12_abs.f a0).bind fun t108 => (if 0 ≤ (Int.tmod t108 5) then (if (Int.tmod t108 5) < (y105.length : Int) then (some (rdOf ByteArray.empty y105 (Int.tmod t108 5))) else (none)) else (none)))) = some r := h
 clear h
 obtain ⟨y105, hy105⟩ : ∃ y_ : List ByteArray, y_ = (([(⟨#[97]⟩ : ByteArray), (⟨#[98]⟩ : ByteArray), (⟨#[97, 98]⟩ : ByteArray), (⟨#[97, 47, 49]⟩ : ByteArray), (⟨#[122]⟩ : ByteArray)] : List ByteArray)) := ⟨_, rfl⟩
 replace H : ((gristmilllaw12_abs.f a0).bind fun t108 => (if 0 ≤ (Int.tmod t108 5) then (if (Int.tmod t108 5) < (y105.length : Int) then (some (rdOf ByteArray.empty y105 (Int.tmod t108 5))) else (none)) else (none))) = some r := by first | (rw [hy105]; with_reducible exact H) | (have H2_ := (Option.bind_some _ _).symm.trans H; rw [hy105]; with_reducible exact H2_) | (have H2_ := (Option.bind_some _ _).symm.trans H; with_reducible exact H2_) | with_reducible exact H | (rw [hy105]; exact H) | exact H
 have Ny105 := Aside0.mk hy105
 clear hy105
 replace H := Option.bind_eq_some_iff.mp H
 obtain ⟨t108, A20, H⟩ := H
 replace H : (if 0 ≤ (Int.tmod t108 5) then (if (Int.tmod t108 5) < (y105.length : Int) then (some (rdOf ByteArray.empty y105 (Int.tmod t108 5))) else (none)) else (none)) = some r := H
 have A2 := Aside0.mk A20
 clear A20
 obtain ⟨ji3, hji3⟩ : ∃ j_ : Int, (Int.tmod t108 5) = j_ := ⟨_, rfl⟩
 replace H : (if 0 ≤ (ji3) then (if (ji3) < (y105.length : Int) then (some (rdOf ByteArray.empty y105 (ji3))) else (none)) else (none)) = some r := by first | (rw [hji3] at H; exact H) | (simp only [hji3] at H ⊢; exact H)
 (try rw [hji3] at A2)
 by_cases c4 : 0 ≤ (ji3)
 ·rw [if_pos c4] at H
  have c4b0 : decide (0 ≤ (ji3)) = true := decide_eq_true c4
  clear c4
  by_cases c5 : (ji3) < (y105.length : Int)
  ·rw [if_pos c5] at H
   have c5b0 : decide ((ji3) < (y105.length : Int)) = true := decide_eq_true c5
   clear c5
   obtain rfl := Option.some.inj H
   go_enter Try.func36, Try.ntmps36
   go_wp2_with (first | ((with_reducible refine gate_dst (N := 3) rfl ?_); refine Kd.R_lit Kd.string _ 9 ?hg (N := 3) ?hd (xs := ([(⟨#[97]⟩ : ByteArray), (⟨#[98]⟩ : ByteArray), (⟨#[97, 98]⟩ : ByteArray), (⟨#[97, 47, 49]⟩ : ByteArray), (⟨#[122]⟩ : ByteArray)] : List ByteArray)) (inner := [.string (⟨#[97]⟩ : ByteArray), .string (⟨#[98]⟩ : ByteArray), .string (⟨#[97, 98]⟩ : ByteArray), .string (⟨#[97, 47, 49]⟩ : ByteArray), .string (⟨#[122]⟩ : ByteArray)]) (ok := fun _ => True) (okp := fun _ => True) ?hr ?hp (fun _ hk => hk) trivial (Below.refl _ _) (Nat.le_refl _) (by simp) ?_; (case hd => rfl); (case hg => rfl); (case hr => first | (go_simp; done) | (go_simp; rfl)); (case hp => exact (Reps.one (show Kd.M Kd.string _ _ _ (⟨#[97]⟩ : ByteArray) [.string (⟨#[97]⟩ : ByteArray)] from rfl) (Reps.one (show Kd.M Kd.string _ _ _ (⟨#[98]⟩ : ByteArray) [.string (⟨#[98]⟩ : ByteArray)] from rfl) (Reps.one (show Kd.M Kd.string _ _ _ (⟨#[97, 98]⟩ : ByteArray) [.string (⟨#[97, 98]⟩ : ByteArray)] from rfl) (Reps.one (show Kd.M Kd.string _ _ _ (⟨#[97, 47, 49]⟩ : ByteArray) [.string (⟨#[97, 47, 49]⟩ : ByteArray)] from rfl) (Reps.one (show Kd.M Kd.string _ _ _ (⟨#[122]⟩ : ByteArray) [.string (⟨#[122]⟩ : ByteArray)] from rfl) (Reps.none _ _))))))); intro v106 w6 ho7 hb hg_ hnew_; clear hg_ hnew_; (first | rw [← Ny105.out] at ho7 | (simp only [Int.reduceToNat] at ho7; rw [← Ny105.out] at ho7)); have n0_ := Aside0.mk (Kd.R_lower ho7 (below_size (bw_ HB.out))); have n1_ := Aside0.mk (below_step (bw_ HB.out) hb); clear HB; have HO107 := n0_; have HB := n1_; clear n0_ n1_; clear hb ho7) | ((with_reducible refine gate_callee (f := 14) rfl ?_); refine goesL_ (some 5) rfl rfl Try.func14 (by kernel_rfl) rfl #[.int .i64 a0] rfl (by (try simp only [List.map_toArray, List.map_cons, List.map_nil]); first | done | rfl | (simp only [List.length_drop, List.length_take]; rfl)) ?_; (with_reducible refine (gristmilllaw12_abs.calls a0 t108 _ A2.out).mono ?_); rintro e w' ⟨rfl, ⟨nd, rfl⟩⟩; refine ⟨_, rfl, ?_⟩; obtain ⟨Ao8, co8, eo8⟩ := Kd.R_slice HO107.out; subst eo8; have p109 : 0 ≤ ((ji3) : Int) := of_decide_eq_true (by assumption); have q109 : (ji3) < (y105.length : Int) := of_decide_eq_true (by assumption); obtain ⟨ad109, e109, hx109_0⟩ := Kd.at_string (Kd.R_reads' HO107.out).2.2 (ji3) p109 q109; cases e109; replace p109 := eq_true p109; replace q109 := eq_true q109))
   go_ret
   exact ⟨by first | rfl | (simp [errW_none, errW_some] <;> rfl) | (simp only [← hji3]; first | rfl | (simp [errW_none, errW_some] <;> rfl)) | (simp [*, errW_none, errW_some] <;> rfl), by repeat (first | (with_reducible first | exact HB.out | apply below_alloc | apply pw_below_drewN | apply below_drew1) | exact HB.out)⟩
  ·rw [if_neg c5] at H
   exact absurd H (by simp)
 ·rw [if_neg c4] at H
  exact absurd H (by simp)
end Go.Proofs.Ytabomfmjepmkjaa.P
end

section
namespace Go.Proofs.Ytabomfmjepmkjaa.Dk
set_option linter.unusedVariables false
set_option linter.unusedSimpArgs false
open Go.RowKit Go.Proofs.YtabomfmjepmkjaaW.PrintWords Go.Proofs.YtabomfmjepmkjaaW.PrintLast Go.Proofs.YtabomfmjepmkjaaW.PrintMore Go.Proofs.Ytabomfmjepmkjaa.Lib Go.Proofs.Ytabomfmjepmkjaa.Mem Go.Proofs.Ytabomfmjepmkjaa.Txt
open Go.MapKept Go.ChangeMaps
theorem bt_bs (t : T) (i : Nat) (h : i < t.length) : bt (bs t) (i : Int) = (t[i].toNat : Int) := by
  unfold bt
  have h2 : (i : Int).toNat < (bs t).size := by rw [Int.toNat_natCast, bs_size]; exact h
  rw [dif_pos h2]
  rfl
theorem named_loop (t : T) (hl : t.length < 4611686018427387904) : ∀ (d i : Nat), i + d = t.length → ∀ k, d + 1 ≤ k → P.disk_named.l0 k (bs t) (t.length : Int) (i : Int) = some ((t.drop i).all okByte && (decide (0 < t.length) && decide (t.length ≤ 64))) := by
  intro d
  have hs : ((bs t).size : Int) = (t.length : Int) := rfl
  induction d with
  | zero =>
    intro i hi k hk
    obtain ⟨k, rfl⟩ : ∃ k', k = k' + 1 := ⟨k - 1, by omega⟩
    rw [P.disk_named.l0, if_neg (by omega), List.drop_of_length_le (by omega), hs]
    by_cases h : 0 < t.length
    · rw [if_pos (by omega), decide_eq_true h]
      simp
      omega
    · rw [if_neg (by omega), decide_eq_false h]
      simp
  | succ d ih =>
    intro i hi k hk
    obtain ⟨k, rfl⟩ : ∃ k', k = k' + 1 := ⟨k - 1, by omega⟩
    have hil : i < t.length := by omega
    have hw : wrap64 ((i : Int) + 1) = ((i + 1 : Nat) : Int) := by unfold wrap64; omega
    rw [P.disk_named.l0, if_pos (by omega), if_pos (by omega), if_pos (by omega), bt_bs t i hil, hw, ih (i + 1) (by omega) k (by omega), List.drop_eq_getElem_cons hil, List.all_cons]
    unfold okByte
    by_cases h1 : t[i].toNat < 33
    · rw [if_pos (by omega), decide_eq_false (show ¬ 33 ≤ t[i].toNat by omega)]
      simp
    · rw [if_neg (by omega), decide_eq_true (show 33 ≤ t[i].toNat by omega)]
      by_cases h2 : 126 < t[i].toNat
      · rw [if_pos (by omega), decide_eq_false (show ¬ t[i].toNat ≤ 126 by omega)]
        simp
      · rw [if_neg (by omega), decide_eq_true (show t[i].toNat ≤ 126 by omega)]
        simp
theorem named_is (t : T) (hl : t.length < 4611686018427387904) : P.disk_named.f (t.length + 1) (bs t) = some (named t) := named_loop t hl t.length 0 (by omega) _ (Nat.le_refl _)
theorem below_of_drawn {w w' : World} (h : Drawn0 w w') : Below w.heap.size w w' := h.below
set_option maxRecDepth 100000 in
set_option maxHeartbeats 400000 in
theorem notName_tells (t : T) (hl : t.length < 4611686018427387904) (w : World) : Calls Try.prog 55 #[.string (bs t)] w fun e w' => e = .returned (.bool (!named t)) ∧ Below w.heap.size w w' := by
  have H := Aside0.mk (fun w => P.disk_named.calls (t.length + 1) (bs t) (named t) w (named_is t hl))
  generalize named t = b at *
  go_enter Try.func55, Try.ntmps55
  go_wp2_with fail
  refine (H.out _).mono ?_
  rintro e w1 ⟨rfl, hd⟩
  have HD := Aside0.mk hd
  clear hd
  go_wp2_with fail
  go_ret
  exact ⟨rfl, below_of_drawn HD.out⟩
theorem fun_refused : Fun 55 := ⟨_, Try.func55, rfl, rfl⟩
def Shorts (names : List T) : Prop := ∀ t ∈ names, t.length < 4611686018427387904
end Go.Proofs.Ytabomfmjepmkjaa.Dk
end

section
namespace Go.Proofs.Ytabomfmjepmkjaa.Dk
set_option linter.unusedVariables false
set_option linter.unusedSimpArgs false
open Go.RowKit Go.Proofs.YtabomfmjepmkjaaW.PrintWords Go.Proofs.YtabomfmjepmkjaaW.PrintLast Go.Proofs.YtabomfmjepmkjaaW.PrintMore Go.Proofs.Ytabomfmjepmkjaa.Lib Go.Proofs.Ytabomfmjepmkjaa.Mem Go.Proofs.Ytabomfmjepmkjaa.Txt
open Go.MapKept Go.ChangeMaps
def emptyS : DS := ⟨false, 0, -1, 0, []⟩
theorem DkMs.cells {w : World} {ok : Nat → Prop} {p mb clock : Nat} {s : DS} {ms : List FM} (h : DkMs w ok p s mb clock ms) :
    (w.cell? ⟨p, 0, none⟩ = some (.map (some mb)) ∧ w.cell? ⟨p, 1, none⟩ = some (.bool s.off) ∧ w.cell? ⟨p, 2, none⟩ = some (.int .i64 s.ops) ∧ w.cell? ⟨p, 3, none⟩ = some (.int .i64 s.cutAt) ∧ w.cell? ⟨p, 4, none⟩ = some (.int .i64 s.part)) ∧
    (w.frozen? ⟨p, 1, none⟩ = false ∧ w.frozen? ⟨p, 2, none⟩ = false ∧ w.frozen? ⟨p, 3, none⟩ = false ∧ w.frozen? ⟨p, 4, none⟩ = false) :=
  ⟨⟨(blk_cell h.blk 0).trans rfl, (blk_cell h.blk 1).trans rfl, (blk_cell h.blk 2).trans rfl, (blk_cell h.blk 3).trans rfl, (blk_cell h.blk 4).trans rfl⟩, blk_frozen h.blk 1, blk_frozen h.blk 2, blk_frozen h.blk 3, blk_frozen h.blk 4⟩
set_option maxRecDepth 100000 in
set_option maxHeartbeats 400000 in
theorem new_calls (w : World) : Calls Try.prog 11 #[] w fun e w' => ∃ p, e = .returned (.pointer (some ⟨p, 0, none⟩)) ∧ DkAt w' (okx (fun _ => False) w w') p emptyS ∧ Below w.heap.size w w' ∧ w.heap.size ≤ p := by
  have hmk : (Instr.makeMap 62 none).run Try.prog w = .ok (.map (some w.heap.size)) (w.alloc (.map #[] 0)) := by simp [Instr.makeMap, Result.andThen]
  go_enter Try.func11, Try.ntmps11
  go_wp2_with (first
    | ((with_reducible refine gate_dst (N := 3) rfl ?_); refine box_event ?hg (N := 3) ?hd (cs := #[.map (some w.heap.size), .bool false, .int .i64 0, .int .i64 (-1), .int .i64 0]) (t := 64) ?hr ?_; (case hd => rfl); (case hg => rfl); (case hr => first | (go_simp; done) | (go_simp; rfl)); intro g2 hg w2 hbox hb; have GE2 := Aside0.mk (Nat.le_of_eq hg.symm); have BK2 := Aside0.mk hbox; have HX2 := Aside0.mk hb; clear hg hbox hb)
    | fail)
  go_ret
  have hs : w.heap.size < (w.alloc (.map #[] 0)).heap.size := by simp
  have h1 : w2.heap[w.heap.size]? = some (.map #[] 0) := (HX2.out.block _ hs).trans (heap_alloc w _).1
  have hb : Below w.heap.size w w2 := (Below.alloc (Below.refl _ w) (Nat.le_refl _) _).trans (HX2.out.mono (Nat.le_of_lt hs))
  have hge : w.heap.size ≤ g2 := Nat.le_trans (Nat.le_of_lt hs) GE2.out
  exact ⟨g2, rfl, ⟨w.heap.size, 0, [], rfl, .inr ⟨hge, blk_lt BK2.out⟩, .inr ⟨Nat.le_refl _, blk_lt h1⟩, BK2.out, h1, fun m hm => by simp at hm, List.Pairwise.nil, fun m hm => by simp at hm⟩, hb, hge⟩
set_option maxRecDepth 100000 in
set_option maxHeartbeats 400000 in
theorem ops_calls (w : World) (ok : Nat → Prop) (p : Nat) (s : DS) (h : DkAt w ok p s) : Calls Try.prog 18 #[.pointer (some ⟨p, 0, none⟩)] w fun e w' => e = .returned (.int .i64 s.ops) ∧ Below w.heap.size w w' := by
  obtain ⟨mb, cl, ms, h⟩ := h
  obtain ⟨⟨c0, c1, c2, c3, c4⟩, f1, f2, f3, f4⟩ := h.cells
  clear h
  go_enter Try.func18, Try.ntmps18
  go_wp2_with fail
  go_ret
  exact ⟨rfl, Below.refl _ _⟩
set_option maxRecDepth 100000 in
set_option maxHeartbeats 400000 in
theorem off_calls (w : World) (ok : Nat → Prop) (p : Nat) (s : DS) (h : DkAt w ok p s) : Calls Try.prog 19 #[.pointer (some ⟨p, 0, none⟩)] w fun e w' => e = .returned (.bool s.off) ∧ Below w.heap.size w w' := by
  obtain ⟨mb, cl, ms, h⟩ := h
  obtain ⟨⟨c0, c1, c2, c3, c4⟩, f1, f2, f3, f4⟩ := h.cells
  clear h
  go_enter Try.func19, Try.ntmps19
  go_wp2_with fail
  go_ret
  exact ⟨rfl, Below.refl _ _⟩
set_option maxRecDepth 100000 in
set_option maxHeartbeats 400000 in
theorem on_calls (w : World) (ok : Nat → Prop) (p : Nat) (s : DS) (h : DkAt w ok p s) : Calls Try.prog 24 #[.pointer (some ⟨p, 0, none⟩)] w fun e w' => e = .returned (.tuple #[]) ∧ DkAt w' ok p { s with off := false } ∧ Only (fun k => k = p) w w' := by
  obtain ⟨mb, cl, ms, h⟩ := h
  obtain ⟨⟨c0, c1, c2, c3, c4⟩, f1, f2, f3, f4⟩ := h.cells
  have H := Aside0.mk (h.set_off false)
  have HO := Aside0.mk ((Only.refl (fun k => k = p) w).set 1 (.inl rfl) (.bool false))
  clear h
  go_enter Try.func24, Try.ntmps24
  go_wp2_with fail
  go_end0
  exact ⟨rfl, ⟨mb, cl, ms, H.out⟩, HO.out⟩
theorem DkMs.drewN {w : World} {ok : Nat → Prop} {p mb clock : Nat} {s : DS} {ms : List FM} (h : DkMs w ok p s mb clock ms) (k : Nat) : DkMs (w.drewN k) ok p s mb clock ms := h.step (Only.of_below (ok := fun _ => False) (pw_below_drewN (Below.refl _ _) k)) (fun _ _ _ h => h)
set_option maxRecDepth 100000 in
set_option maxHeartbeats 400000 in
theorem refused_off (w : World) (ok : Nat → Prop) (p n c : Nat) (s : DS) (there : Bool) (A : Option Addr) (h : DkAt w ok p s) (ho : s.off = true) :
    Calls Try.prog 31 #[.pointer (some ⟨p, 0, none⟩), .bool there, .slice A n c] w fun e w' => e = .returned (.int .i64 122) ∧ Below w.heap.size w w' := by
  obtain ⟨mb, cl, ms, h⟩ := h
  obtain ⟨⟨c0, c1, c2, c3, c4⟩, f1, f2, f3, f4⟩ := h.cells
  rw [ho] at c1
  clear h ho
  go_enter Try.func31, Try.ntmps31
  go_wp2_with fail
  go_ret
  exact ⟨rfl, Below.refl _ _⟩
set_option maxRecDepth 100000 in
set_option maxHeartbeats 400000 in
theorem refused_not (w : World) (ok : Nat → Prop) (p n c : Nat) (s : DS) (there : Bool) (A : Option Addr) (names : List T) (h : DkAt w ok p s) (ho : s.off = false) (hC : text.C w A n names) (hs : Shorts names) (ha : names.any (fun t => !named t) = true) :
    Calls Try.prog 31 #[.pointer (some ⟨p, 0, none⟩), .bool there, .slice A n c] w fun e w' => e = .returned (.int .i64 1) ∧ Below w.heap.size w w' := by
  obtain ⟨mb, cl, ms, h⟩ := h
  obtain ⟨⟨c0, c1, c2, c3, c4⟩, f1, f2, f3, f4⟩ := h.cells
  rw [ho] at c1
  have HN := Aside0.mk (has_texts 55 #[] (fun t => !named t) n c A names w hC fun_refused (fun w' _ t ht => notName_tells t (hs t ht) w'))
  rw [ha] at HN
  clear h ho hC hs ha
  go_enter Try.func31, Try.ntmps31
  go_wp2_with fail
  refine HN.out.mono ?_
  rintro e w1 ⟨rfl, hb⟩
  have HB := Aside0.mk hb
  clear hb
  go_wp2_with fail
  go_ret
  exact ⟨rfl, HB.out⟩
set_option maxRecDepth 100000 in
set_option maxHeartbeats 400000 in
theorem refused_new (w : World) (ok : Nat → Prop) (p n c : Nat) (s : DS) (A : Option Addr) (names : List T) (h : DkAt w ok p s) (ho : s.off = false) (hC : text.C w A n names) (hs : Shorts names) (ha : names.any (fun t => !named t) = false) :
    Calls Try.prog 31 #[.pointer (some ⟨p, 0, none⟩), .bool false, .slice A n c] w fun e w' => e = .returned (.int .i64 0) ∧ Below w.heap.size w w' := by
  obtain ⟨mb, cl, ms, h⟩ := h
  obtain ⟨⟨c0, c1, c2, c3, c4⟩, f1, f2, f3, f4⟩ := h.cells
  rw [ho] at c1
  have HN := Aside0.mk (has_texts 55 #[] (fun t => !named t) n c A names w hC fun_refused (fun w' _ t ht => notName_tells t (hs t ht) w'))
  rw [ha] at HN
  clear h ho hC hs ha
  go_enter Try.func31, Try.ntmps31
  go_wp2_with fail
  refine HN.out.mono ?_
  rintro e w1 ⟨rfl, hb⟩
  have HB := Aside0.mk hb
  clear hb
  go_wp2_with fail
  go_quiet (fail)
  obtain ⟨w2, hw2⟩ : ∃ w2, w1.drewN nq = w2 := ⟨_, rfl⟩
  have HB2 := Aside0.mk (show Below w.heap.size w w2 from hw2 ▸ pw_below_drewN HB.out nq)
  rw [hw2]
  clear hw2
  go_wp2_with fail
  go_ret
  exact ⟨rfl, HB2.out⟩
set_option maxRecDepth 100000 in
set_option maxHeartbeats 400000 in
theorem refused_none (w : World) (ok : Nat → Prop) (p n c mb cl : Nat) (s : DS) (ms : List FM) (A : Option Addr) (nm : T) (names : List T) (h : DkMs w ok p s mb cl ms) (ho : s.off = false) (hC : text.C w A n (nm :: names)) (hs : Shorts (nm :: names)) (ha : (nm :: names).any (fun t => !named t) = false) (hf : ∀ m ∈ ms, m.name ≠ nm) :
    Calls Try.prog 31 #[.pointer (some ⟨p, 0, none⟩), .bool true, .slice A n c] w fun e w' => e = .returned (.int .i64 120) ∧ Below w.heap.size w w' := by
  have HRun := Aside0.mk (fun (w' : World) (h : DkMs w' ok p s mb cl ms) => h.run_no hf)
  have HH := Aside0.mk h
  have HC := Aside0.mk hC
  have HN := Aside0.mk (has_texts 55 #[] (fun t => !named t) n c A (nm :: names) w hC fun_refused (fun w' _ t ht => notName_tells t (hs t ht) w'))
  rw [ha] at HN
  obtain ⟨⟨c0, c1, c2, c3, c4⟩, f1, f2, f3, f4⟩ := h.cells
  rw [ho] at c1
  have hn : 0 < n := by rw [← hC.1]; exact Nat.succ_pos _
  have hn2 : (0 : Int) < (n : Int) := by omega
  obtain ⟨ad, e, _⟩ := at_text hC 0 hn
  subst e
  clear h hC hs ha ho hf
  go_enter Try.func31, Try.ntmps31
  go_wp2_with fail
  refine HN.out.mono ?_
  rintro e w1 ⟨rfl, hb⟩
  have HB := Aside0.mk hb
  have h1 := HH.out.step (Only.of_below (ok := fun _ => False) hb) (fun _ _ _ h => h)
  obtain ⟨ad', e, hcell⟩ := at_text (Kd.C_below HC.out hb) 0 hn
  obtain rfl := Option.some.inj e
  obtain ⟨⟨d0, d1, d2, d3, d4⟩, _, _, _, _⟩ := h1.cells
  rw [Addr.add_zero'] at hcell
  have hcell2 : w1.cell? ad = some (.string (bs nm)) := hcell
  clear hb c0 c1 c2 c3 c4 f1 f2 f3 f4 hcell
  have hlk : ∀ k, (Instr.lookup 62 (.map (some mb)) (.string (bs nm)) false).run Try.prog (w1.drewN k) = .ok (.pointer none) (w1.drewN k) := fun k => HRun.out _ (h1.drewN k)
  clear h1
  go_wp2_with fail
  go_quiet (fail)
  obtain ⟨w2, hw2⟩ : ∃ w2, w1.drewN nq = w2 := ⟨_, rfl⟩
  have HB2 := Aside0.mk (show Below w.heap.size w w2 from hw2 ▸ pw_below_drewN HB.out nq)
  rw [hw2]
  clear hw2 hlk
  go_wp2_with fail
  go_ret
  exact ⟨rfl, HB2.out⟩
set_option maxRecDepth 100000 in
set_option maxHeartbeats 400000 in
theorem refused_some (w : World) (ok : Nat → Prop) (p n c mb cl : Nat) (s : DS) (ms : List FM) (A : Option Addr) (nm : T) (names : List T) (h : DkMs w ok p s mb cl ms) (ho : s.off = false) (hC : text.C w A n (nm :: names)) (hs : Shorts (nm :: names)) (ha : (nm :: names).any (fun t => !named t) = false) (q : Nat) (hf : ∃ (i : Nat) (m : FM), ms[i]? = some m ∧ m.name = nm ∧ m.q = q) :
    Calls Try.prog 31 #[.pointer (some ⟨p, 0, none⟩), .bool true, .slice A n c] w fun e w' => e = .returned (.int .i64 0) ∧ Below w.heap.size w w' := by
  have HRun := Aside0.mk (fun (w' : World) (h : DkMs w' ok p s mb cl ms) => (by obtain ⟨i, m, hi, rfl, rfl⟩ := hf; exact h.run_yes hi : (Instr.lookup 62 (.map (some mb)) (.string (bs nm)) false).run Try.prog w' = .ok (.pointer (some ⟨q, 0, none⟩)) w'))
  have HH := Aside0.mk h
  have HC := Aside0.mk hC
  have HN := Aside0.mk (has_texts 55 #[] (fun t => !named t) n c A (nm :: names) w hC fun_refused (fun w' _ t ht => notName_tells t (hs t ht) w'))
  rw [ha] at HN
  obtain ⟨⟨c0, c1, c2, c3, c4⟩, f1, f2, f3, f4⟩ := h.cells
  rw [ho] at c1
  have hn : 0 < n := by rw [← hC.1]; exact Nat.succ_pos _
  have hn2 : (0 : Int) < (n : Int) := by omega
  obtain ⟨ad, e, _⟩ := at_text hC 0 hn
  subst e
  clear h hC hs ha ho hf
  go_enter Try.func31, Try.ntmps31
  go_wp2_with fail
  refine HN.out.mono ?_
  rintro e w1 ⟨rfl, hb⟩
  have HB := Aside0.mk hb
  have h1 := HH.out.step (Only.of_below (ok := fun _ => False) hb) (fun _ _ _ h => h)
  obtain ⟨ad', e, hcell⟩ := at_text (Kd.C_below HC.out hb) 0 hn
  obtain rfl := Option.some.inj e
  obtain ⟨⟨d0, d1, d2, d3, d4⟩, _, _, _, _⟩ := h1.cells
  rw [Addr.add_zero'] at hcell
  have hcell2 : w1.cell? ad = some (.string (bs nm)) := hcell
  clear hb c0 c1 c2 c3 c4 f1 f2 f3 f4 hcell
  have hlk : ∀ k, (Instr.lookup 62 (.map (some mb)) (.string (bs nm)) false).run Try.prog (w1.drewN k) = .ok (.pointer (some ⟨q, 0, none⟩)) (w1.drewN k) := fun k => HRun.out _ (h1.drewN k)
  clear h1
  go_wp2_with fail
  go_quiet (fail)
  obtain ⟨w2, hw2⟩ : ∃ w2, w1.drewN nq = w2 := ⟨_, rfl⟩
  have HB2 := Aside0.mk (show Below w.heap.size w w2 from hw2 ▸ pw_below_drewN HB.out nq)
  rw [hw2]
  clear hw2 hlk
  go_wp2_with fail
  go_ret
  exact ⟨rfl, HB2.out⟩
theorem refused_calls (w : World) (ok : Nat → Prop) (p n c : Nat) (s : DS) (there : Bool) (A : Option Addr) (names : List T) (h : DkAt w ok p s) (hC : text.C w A n names) (hs : Shorts names) (hne : names ≠ []) :
    Calls Try.prog 31 #[.pointer (some ⟨p, 0, none⟩), .bool there, .slice A n c] w fun e w' => e = .returned (.int .i64 (refuse s there names)) ∧ Below w.heap.size w w' := by
  unfold refuse
  by_cases ho : s.off = true
  · rw [if_pos ho]
    exact refused_off w ok p n c s there A h ho
  · have ho2 : s.off = false := by simpa using ho
    rw [if_neg ho]
    by_cases ha : names.any (fun t => !named t) = true
    · rw [if_pos ha]
      exact refused_not w ok p n c s there A names h ho2 hC hs ha
    · have ha2 : names.any (fun t => !named t) = false := by simpa using ha
      rw [if_neg ha]
      cases there
      · exact refused_new w ok p n c s A names h ho2 hC hs ha2
      · obtain ⟨nm, rest, rfl⟩ : ∃ nm rest, names = nm :: rest := by cases names with | nil => exact absurd rfl hne | cons a b => exact ⟨a, b, rfl⟩
        obtain ⟨mb, cl, ms, h⟩ := h
        rcases find_cases ms nm with hf | ⟨i, m, hi, hm⟩
        · have e : (if (true && (look s.fs ((nm :: rest).headD [])).isNone) = true then (120 : Int) else 0) = 120 := by
            rw [show (nm :: rest).headD [] = nm from rfl, h.look_no hf]; rfl
          rw [e]
          exact refused_none w ok p n c mb cl s ms A nm rest h ho2 hC hs ha2 hf
        · have e : (if (true && (look s.fs ((nm :: rest).headD [])).isNone) = true then (120 : Int) else 0) = 0 := by
            rw [show (nm :: rest).headD [] = nm from rfl, ← hm, h.look_yes hi]; rfl
          rw [e]
          exact refused_some w ok p n c mb cl s ms A nm rest h ho2 hC hs ha2 m.q ⟨i, m, hi, hm, rfl⟩
end Go.Proofs.Ytabomfmjepmkjaa.Dk
end
