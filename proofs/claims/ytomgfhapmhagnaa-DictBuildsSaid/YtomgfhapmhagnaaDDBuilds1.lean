/- Texts of this repo, joined, without what this claim does not use: WWords, WLast, WApart, WFoot, WKept, WShare, WN, WMore, WRepsOne, WTab, Lib, Reg, Text, Shelf, TextA, Search, Dict, Dict2, BasA, BasU, DictB, DictC, DictW, RefDict, RefU, RefDictB. -/
import Derived.Below
import Derived.Deep.Draws
import Derived.Deep.AppendLies
import Derived.Maps.AppendAt
import Derived.OwnWalk
import Derived.Laws.BytesArg
import Derived.Laws.MakeOwn
import Derived.Laws.OwnMore
import Derived.Deep.OwnRows
import Derived.Tactics
import Derived.Lib.ConvBytes
import Derived.Laws.Slices
import Derived.WalkKit
import Derived.KernelRfl
import Derived.RowKit3
import Derived.Deep.LoopGhost
import Derived.Deep.QuietTactic
import Derived.BigQuiet
import Derived.WideLaws
import Derived.Deep.DeepCutAuto
import Derived.Deep.CutBlock
import Derived.Deep.RegionHeld3
import Derived.Laws.Rows
import Derived.Lib.AppendStr
import Derived.ArgAppend
import Derived.Laws.IdiomCopy
import Derived.RowKit
import Derived.OrdersHeld
import Derived.Laws.BitsLemmas
import Derived.Laws.CopyOwn
import Derived.Lib.SlBytesConst
import Derived.Sort.EncStr
import Derived.Sort.Walk0
import Derived.Lib.SlicesCompact
import Derived.Lib.RowBridge
import Derived.Shelf.Small.Bits
import Derived.Shelf.Strconv.Itoa0
import Derived.Shelf.Sort.Plain
import Derived.Shelf.Strings.Prefix
import Derived.Ground.Names2Prog
import Derived.Shelf.Slices.Clone
import Derived.Shelf.Slices.CompactS
import Derived.Shelf.Slices.Cells
import Derived.Shelf.Slices.In.SortNone
import Derived.Ground.SlgnProg
import Derived.Shelf.SlicesE.Clone
import Derived.Test.YtomgfhapmhagnaaProg
import Derived.Sort.OwnSorted
import Derived.WalkLawsBesides
import Derived.WalkSpells
import Derived.Outline
import Derived.Test.YtomgfhapmhagnaaChecked
import Derived.ShutString
import Derived.SizedLaws
import Derived.ChangeSlices
import Derived.Laws.StructEq
section
set_option linter.unusedVariables false
set_option linter.unusedSimpArgs false
namespace Go.Proofs.YtomgfhapmhagnaaW.PrintWords
open Go.RowKit
structure Aside0 (p : Prop) : Prop where mk :: (out : p)
structure Drawn0 (w w' : World) : Prop where mk :: (out : ∃ n, w' = w.drewN n)
theorem Drawn0.refl (w : World) : Drawn0 w w := ⟨⟨0, rfl⟩⟩
theorem Drawn0.step {w w' : World} (h : Drawn0 w w') (n : Nat) : Drawn0 w (w'.drewN n) := by
  obtain ⟨m, rfl⟩ := h
  exact ⟨⟨m + n, World.drewN_drewN ..⟩⟩
theorem Drawn0.grown {w w' : World} (h : Drawn0 w w') : Grown w w' := by
  obtain ⟨n, rfl⟩ := h
  induction n with
  | zero => exact Grown.refl _
  | succ n ih => rw [← World.drew_drewN]; exact Grown.drew ih
theorem Drawn0.below {w w' : World} (h : Drawn0 w w') : Below w.heap.size w w' := by
  obtain ⟨n, rfl⟩ := h
  induction n with
  | zero => exact Below.refl _ _
  | succ n ih => rw [← World.drew_drewN]; exact ih.drew
def rd (xs : List Int) (i : Int) : Int := xs.getD i.toNat 0
def nums (k : IntKind) (xs : List Int) : List Value := xs.map fun x => .int k x
theorem nums_append (k : IntKind) (xs ys : List Int) : nums k (xs ++ ys) = nums k xs ++ nums k ys := by simp [nums]
theorem below_alloc {w W : World} (h : Below w.heap.size w W) (o : Obj) : Below w.heap.size w (W.alloc o) := h.alloc h.size o
theorem below_drew {B : Nat} {w W : World} (h : Below B w W) : Below B w W.drew := ⟨h.os, h.tape, h.output, h.size, h.block⟩
theorem pw_below_drewN {B : Nat} {w W : World} (h : Below B w W) (n : Nat) : Below B w (W.drewN n) := ⟨h.os, h.tape, h.output, h.size, h.block⟩
theorem below_then {B : Nat} {w w1 w2 : World} (h : Below B w w1) (hB : B ≤ w1.heap.size) (k : Below w1.heap.size w1 w2) : Below B w w2 :=
  h.trans ⟨k.os, k.tape, k.output, k.size, fun i hi => k.block i (Nat.lt_of_lt_of_le hi hB)⟩
theorem pw_below_grown {B : Nat} {w w1 : World} (h : Below B w w1) (row : Option Nat) (hB : B ≤ w1.heap.size) {w2 : World} (hg : w1.grownBy w2 row) (hr : ∀ k, row = some k → B ≤ k) : Below B w w2 := h.grown hg hB hr
theorem grown_of_below {w w1 : World} (h : Below w.heap.size w w1) (row : Option Nat) : w.grownBy w1 row := ⟨h.os, h.tape, h.output, h.size, fun i hi _ => h.block i hi⟩
theorem pw_cell_below {w w1 : World} (h : Below w.heap.size w w1) {a : Addr} {v : Value} (hc : w.cell? a = some v) : w1.cell? a = some v := (h.cell (World.block_lt_of_cell? w a hc)).trans hc
theorem add_plain (g j : Nat) : (⟨g, 0, none⟩ : Addr).add j = ⟨g, j, none⟩ := by unfold Addr.add; split <;> simp_all
def ReadsInt (w : World) (k : IntKind) (A : Option Addr) (n : Nat) (xs : List Int) : Prop :=
  xs.length = n ∧ n ≤ 9223372036854775807 ∧ (0 < n → ∃ ad, A = some ad ∧ ∀ j, j < n → w.cell? (ad.add j) = some (.int k (xs.getD j 0)))
theorem ReadsInt.at_ {w : World} {k : IntKind} {A : Option Addr} {n : Nat} {xs : List Int} (h : ReadsInt w k A n xs) (i : Int) (h0 : 0 ≤ i) (h1 : i < n) : ∃ ad, A = some ad ∧ w.cell? (ad.add i.toNat) = some (.int k (rd xs i)) := by
  obtain ⟨ad, e, hc⟩ := h.2.2 (by omega)
  exact ⟨ad, e, hc _ (by omega)⟩
theorem ReadsInt.below {w w1 : World} {k : IntKind} {A : Option Addr} {n : Nat} {xs : List Int} (h : ReadsInt w k A n xs) (hb : Below w.heap.size w w1) : ReadsInt w1 k A n xs :=
  ⟨h.1, h.2.1, fun hn => by
    obtain ⟨ad, e, hc⟩ := h.2.2 hn
    exact ⟨ad, e, fun j hj => pw_cell_below hb (hc j hj)⟩⟩
theorem own_nil (W : World) (base : Nat) (e : TypeId) (size : Nat) : W.ownsRow base e size (.slice none 0 0) 0 [] := ⟨by simp, .inl ⟨rfl, rfl⟩⟩
theorem own_base {w : World} {base : Nat} {e : TypeId} {size n : Nat} {v : Value} {xs : List Value} (h : w.ownsRow base e size v n xs) (k : Nat) (hk : v.ownBlock = some k) : base ≤ k := by
  rcases h.2 with ⟨rfl, _⟩ | ⟨g, cap, cur, rfl, hb, _⟩
  · simp [Value.ownBlock] at hk
  · have : g = k := by simpa [Value.ownBlock] using hk
    omega
theorem own_lt {w : World} {base : Nat} {e : TypeId} {size n : Nat} {v : Value} {xs : List Value} (h : w.ownsRow base e size v n xs) (k : Nat) (hk : v.ownBlock = some k) : k < w.heap.size := by
  rcases h.2 with ⟨rfl, _⟩ | ⟨g, cap, cur, rfl, hb, hh, _⟩
  · simp [Value.ownBlock] at hk
  · have : g = k := by simpa [Value.ownBlock] using hk
    subst this
    exact (Array.getElem?_eq_some_iff.1 hh).1
theorem pw_own_below {w w1 : World} {base : Nat} {e : TypeId} {size n : Nat} {v : Value} {xs : List Value} (h : w.ownsRow base e size v n xs) (hb : Below w.heap.size w w1) : w1.ownsRow base e size v n xs :=
  h.kept (grown_of_below hb none) (by cases v.ownBlock <;> simp)
theorem own_slice {w : World} {base n : Nat} {e : TypeId} {size : Nat} {v : Value} {xs : List Value} (h : w.ownsRow base e size v n xs) : ∃ A c, v = .slice A n c := by
  rcases h.2 with ⟨rfl, rfl⟩ | ⟨g, cap, cur, rfl, _⟩
  · exact ⟨none, 0, rfl⟩
  · exact ⟨_, cap, rfl⟩
section
variable {P : Program} {ops : Array Oper} {rest : List Oper} {o : Oper} {a : Act} {Q : Exit → Act → World → Prop}
end
section
variable {P : Program}
end
section
variable {P : Program} {ops : Array Oper} {rest : List Oper} {o : Oper} {a : Act} {Q : Exit → Act → World → Prop}
end
def bytesOf (s : ByteArray) : List Int := s.data.toList.map fun b => (b.toNat : Int)
theorem data_length (s : ByteArray) : s.data.toList.length = s.size := by rw [Array.length_toList]; rfl
theorem bytesOf_length (s : ByteArray) : (bytesOf s).length = s.size := by rw [bytesOf, List.length_map, data_length]
theorem ReadsInt.take_ {w : World} {k : IntKind} {A : Option Addr} {n : Nat} {xs : List Int} (h : ReadsInt w k A n xs) (i : Nat) (hi : i ≤ n) : ReadsInt w k A i (xs.take i) := by
  refine ⟨by rw [List.length_take, h.1]; omega, by have := h.2.1; omega, fun hp => ?_⟩
  obtain ⟨ad, e, hc⟩ := h.2.2 (by omega)
  refine ⟨ad, e, fun j hj => ?_⟩
  rw [hc j (by omega)]
  simp [List.getD_eq_getElem?_getD, hj]
def LeO {α : Type} (a b : Option α) : Prop := ∀ r, a = some r → b = some r
theorem LeO.refl {α : Type} (a : Option α) : LeO a a := fun _ h => h
theorem LeO.none {α : Type} (b : Option α) : LeO Option.none b := fun _ h => by cases h
theorem LeO.trans {α : Type} {a b c : Option α} (h : LeO a b) (k : LeO b c) : LeO a c := fun r hr => k r (h r hr)
theorem LeO.bind {α β : Type} {a a' : Option α} {f f' : α → Option β} (h : LeO a a') (k : ∀ x, LeO (f x) (f' x)) : LeO (a.bind f) (a'.bind f') := by
  intro r hr
  obtain ⟨x, hx, hf⟩ := Option.bind_eq_some_iff.1 hr
  exact Option.bind_eq_some_iff.2 ⟨x, h x hx, k x r hf⟩
theorem LeO.map {α β : Type} {a a' : Option α} (f : α → β) (h : LeO a a') : LeO (a.map f) (a'.map f) := by
  intro r hr
  obtain ⟨x, hx, hf⟩ := Option.map_eq_some_iff.1 hr
  exact Option.map_eq_some_iff.2 ⟨x, h x hx, hf⟩
def Reps {α : Type} (R : α → List Value → Prop) (size : Nat) (ps : List α) (cs : List Value) : Prop :=
  cs.length = ps.length * size ∧ ∀ j p, ps[j]? = some p → R p ((cs.drop (j * size)).take size)
theorem Reps.none {α : Type} (R : α → List Value → Prop) (size : Nat) : Reps R size [] [] := ⟨by simp, fun j p h => by simp at h⟩
theorem Reps.snoc {α : Type} {R : α → List Value → Prop} {size : Nat} {ps : List α} {cs c : List Value} {p : α} (h : Reps R size ps cs) (hp : R p c) (hc : c.length = size) : Reps R size (ps ++ [p]) (cs ++ c) := by
  refine ⟨by rw [List.length_append, h.1, hc, List.length_append, List.length_singleton, Nat.add_mul, Nat.one_mul], fun j q hq => ?_⟩
  rcases Nat.lt_or_ge j ps.length with hj | hj
  · rw [List.getElem?_append_left hj] at hq
    have h1 : j * size + size ≤ cs.length := by rw [h.1, ← Nat.succ_mul]; exact Nat.mul_le_mul_right _ hj
    have h2 := h.2 j q hq
    rw [List.drop_append_of_le_length (by omega), List.take_append_of_le_length (by rw [List.length_drop]; omega)]
    exact h2
  · have hj' : j = ps.length := by
      have := (List.getElem?_eq_some_iff.1 hq).1
      rw [List.length_append, List.length_singleton] at this
      omega
    subst hj'
    have hq' : p = q := by simpa using hq
    subst hq'
    rw [← h.1, List.drop_left, ← hc, List.take_length]
    exact hp
theorem Reps.imp_ {α : Type} {R R' : α → List Value → Prop} {size : Nat} {ps : List α} {cs : List Value} (h : Reps R size ps cs) (hR : ∀ p c, R p c → R' p c) : Reps R' size ps cs := ⟨h.1, fun j p hj => hR _ _ (h.2 j p hj)⟩
def ReadsRow {α : Type} (R : α → List Value → Prop) (size : Nat) (w : World) (A : Option Addr) (n : Nat) (ps : List α) : Prop :=
  ps.length = n ∧ n ≤ 9223372036854775807 ∧ (0 < n → ∃ ad, A = some ad ∧ ∀ j p, ps[j]? = some p → ∃ c, c.length = size ∧ R p c ∧ ∀ i u, c[i]? = some u → w.cell? (ad.add (j * size + i)) = some u)
theorem ReadsRow.get_ {α : Type} {R : α → List Value → Prop} {size : Nat} {w : World} {A : Option Addr} {n : Nat} {ps : List α} (h : ReadsRow R size w A n ps) (d : α) (i : Int) (h0 : 0 ≤ i) (h1 : i < n) :
    ∃ ad c, A = some ad ∧ c.length = size ∧ R (ps.getD i.toNat d) c ∧ ∀ j u, c[j]? = some u → w.cell? (ad.add (i.toNat * size + j)) = some u := by
  obtain ⟨ad, e, hc⟩ := h.2.2 (by omega)
  have hl : i.toNat < ps.length := by have := h.1; omega
  obtain ⟨c, hs, hr, hcell⟩ := hc i.toNat _ (List.getElem?_eq_getElem hl)
  refine ⟨ad, c, e, hs, ?_, hcell⟩
  rw [List.getD_eq_getElem?_getD, List.getElem?_eq_getElem hl]
  exact hr
theorem ReadsRow.imp_ {α : Type} {R R' : α → List Value → Prop} {size : Nat} {w w1 : World} {A : Option Addr} {n : Nat} {ps : List α} (h : ReadsRow R size w A n ps) (hb : Below w.heap.size w w1) (hR : ∀ p c, R p c → R' p c) : ReadsRow R' size w1 A n ps :=
  ⟨h.1, h.2.1, fun hn => by
    obtain ⟨ad, e, hc⟩ := h.2.2 hn
    refine ⟨ad, e, fun j p hj => ?_⟩
    obtain ⟨c, hs, hr, hcell⟩ := hc j p hj
    exact ⟨c, hs, hR _ _ hr, fun i u hu => pw_cell_below hb (hcell i u hu)⟩⟩
theorem own_reads_row {α : Type} {R : α → List Value → Prop} {w : World} {base n size : Nat} {e : TypeId} {v : Value} {ps : List α} {cs : List Value} (h : w.ownsRow base e size v n cs) (hR : Reps R size ps cs) (hn : ps.length = n) :
    ∃ A c, v = .slice A n c ∧ ReadsRow R size w A n ps := by
  rcases Nat.eq_zero_or_pos n with h0 | h0
  · rcases h.2 with ⟨rfl, rfl⟩ | ⟨g, cap, cur, rfl, _⟩
    · exact ⟨none, 0, rfl, hn, by omega, fun hp => absurd hp (by omega)⟩
    · exact ⟨_, cap, rfl, hn, by omega, fun hp => absurd hp (by omega)⟩
  · obtain ⟨g, cap, rfl, _, _⟩ := h.form h0
    have hm : n ≤ 9223372036854775807 := by
      rcases h.2 with ⟨_, h1⟩ | ⟨g', cap', cur, he, _, _, h1, h2, _⟩
      · omega
      · simp only [maxLen] at h2
        omega
    refine ⟨_, cap, rfl, hn, hm, fun _ => ⟨_, rfl, fun j p hj => ⟨(cs.drop (j * size)).take size, ?_, hR.2 j p hj, fun i u hu => ?_⟩⟩⟩
    · have hjl := (List.getElem?_eq_some_iff.1 hj).1
      have h1 : j * size + size ≤ cs.length := by rw [hR.1, ← Nat.succ_mul]; exact Nat.mul_le_mul_right _ hjl
      rw [List.length_take, List.length_drop]
      omega
    · refine h.cells (g := g) rfl _ u ?_
      rw [List.getElem?_take] at hu
      split at hu
      · rw [List.getElem?_drop] at hu
        exact hu
      · cases hu
section
variable {P : Program} {ops : Array Oper} {rest : List Oper} {o : Oper} {a : Act} {Q : Exit → Act → World → Prop}
theorem print_append_cells {w0 W : World} (base : Nat) (hgd : o.guard = none) (s x : Operand) (t e : TypeId) (z : Value) (size bytes : Nat)
    (ho : o.op = .call { callee := .builtin .append, args := #[s, x], argTypes := #[t, t] })
    (ht : P.underlying t = some (.slice e)) (hinfo : (P.info? e).map (fun i => (i.zero, i.size, i.bytes)) = some (some z, size, bytes)) (hz : z.cells.size = size) (hs0 : 0 < size) (hb0 : 0 < bytes)
    (v : Value) (n : Nat) (xs ys : List Value) (hs : a.eval s = v) (hx : a.eval x = .slice (some ⟨W.heap.size, 0, none⟩) 1 1) (hys : ys.length = size) (h1 : ∀ u ∈ ys, u.oneCell' = true)
    (HO : W.ownsRow base e size v n xs) (HB : Below base w0 W) (hbase : base ≤ W.heap.size) (hl : (n + 1) * bytes ≤ 140737488355328)
    (h : ∀ v1 w1, w1.ownsRow base e size v1 (n + 1) (xs ++ ys) → Below base w0 w1 → W.grownBy w1 v.ownBlock → (v1.ownBlock = v.ownBlock ∨ ∃ b, v1.ownBlock = some b ∧ W.heap.size ≤ b) → wpList P ops Q rest (a.put o.dst v1) w1) :
    wpList P ops Q (o :: rest) a (W.alloc (.cells ys.toArray e)) := by
  obtain ⟨i0, hi, hzz⟩ := Option.map_eq_some_iff.1 hinfo
  simp only [Prod.mk.injEq] at hzz
  obtain ⟨hz0, hz1, hz2⟩ := hzz
  have hlen : n + 1 ≤ 140737488355328 := Nat.le_trans (Nat.le_mul_of_pos_right _ hb0) hl
  refine wpList_append_own_at (W.alloc (.cells ys.toArray e)) hgd s x t ho base e i0 z size bytes ht hi hz0 hz1 hz2 hz hs0 v n xs hs (HO.alloc _) ⟨W.heap.size, 0, none⟩ 1 1 ys hx (by rw [hys]; simp)
    (by simpa using World.news_of_block (cs := ys.toArray) (t := e) (fr := (0, 0)) (heap_alloc_new W (.cells ys.toArray e))) h1 (by simp only [maxLen]; omega) hl (by simp; omega) ?_
  intro v1 w1 hown hg _ hat
  refine h v1 w1 hown ((HB.alloc hbase _).grown hg (by simp; omega) (own_base HO)) (World.grownBy.trans (World.grownBy_alloc W _ _) hg) ?_
  rcases hat with hat | hat
  · exact .inl hat
  · exact .inr ⟨_, hat, by simp⟩
end
theorem blk_lt {w : World} {g : Nat} {o : Obj} (h : w.heap[g]? = some o) : g < w.heap.size := (Array.getElem?_eq_some_iff.1 h).1
def KeepBut (w w' : World) (g : Nat) (row : Option Nat) : Prop := w.heap.size ≤ w'.heap.size ∧ ∀ i, i < w.heap.size → i ≠ g → some i ≠ row → w'.heap[i]? = w.heap[i]?
theorem KeepBut.refl (w : World) (g : Nat) (row : Option Nat) : KeepBut w w g row := ⟨Nat.le_refl _, fun _ _ _ _ => rfl⟩
theorem KeepBut.of_below {w w1 : World} (h : Below w.heap.size w w1) (g : Nat) (row : Option Nat) : KeepBut w w1 g row := ⟨h.size, fun i hi _ _ => h.block i hi⟩
theorem KeepBut.trans {w w1 w2 : World} {g : Nat} {row row1 : Option Nat} (h : KeepBut w w1 g row) (k : KeepBut w1 w2 g row1) (hr : row1 = row ∨ ∃ b, row1 = some b ∧ w.heap.size ≤ b) : KeepBut w w2 g row :=
  ⟨Nat.le_trans h.1 k.1, fun i hi hg hn => by
    refine (k.2 i (Nat.lt_of_lt_of_le hi h.1) hg ?_).trans (h.2 i hi hg hn)
    rcases hr with rfl | ⟨b, rfl, hb⟩
    · exact hn
    · intro e
      injection e with e
      omega⟩
theorem KeepBut.blk {w w1 : World} {g g' : Nat} {row : Option Nat} {o : Obj} (h : KeepBut w w1 g row) (hb : w.heap[g']? = some o) (hg : g' ≠ g) (hr : some g' ≠ row) : w1.heap[g']? = some o := (h.2 g' (blk_lt hb) hg hr).trans hb
theorem KeepBut.own {w w1 : World} {g : Nat} {row : Option Nat} {base : Nat} {e : TypeId} {size n : Nat} {v : Value} {xs : List Value} (h : KeepBut w w1 g row) (ho : w.ownsRow base e size v n xs) (hg : v.ownBlock ≠ some g) (hr : v.ownBlock = none ∨ v.ownBlock ≠ row) : w1.ownsRow base e size v n xs := by
  obtain ⟨h1, h2⟩ := ho
  refine ⟨h1, ?_⟩
  rcases h2 with h2 | ⟨b, cap, cur, rfl, hb, hh, r⟩
  · exact .inl h2
  · refine .inr ⟨b, cap, cur, rfl, hb, h.blk hh ?_ ?_, r⟩
    · intro e
      exact hg (by rw [← e]; rfl)
    · rcases hr with hr | hr
      · simp [Value.ownBlock] at hr
      · exact hr
def Ev {α : Type} (g : Nat → Option α) (r : α) : Prop := ∃ K, ∀ k, K ≤ k → g k = some r
theorem Ev.bind {α β : Type} {g : Nat → Option α} {f : Nat → α → Option β} {a : α} {r : β} (h : Ev g a) (k : Ev (fun n => f n a) r) : Ev (fun n => (g n).bind (f n)) r := by
  obtain ⟨K, h⟩ := h
  obtain ⟨K', k⟩ := k
  refine ⟨max K K', fun n hn => ?_⟩
  have h1 := h n (by omega)
  have h2 := k n (by omega)
  simp only [h1, Option.bind_some]
  exact h2
theorem Ev.step {α : Type} {g f : Nat → Option α} {r : α} (h : ∀ k, g (k + 1) = f k) (k : Ev f r) : Ev g r := by
  obtain ⟨K, k⟩ := k
  refine ⟨K + 1, fun n hn => ?_⟩
  obtain ⟨m, rfl⟩ : ∃ m, n = m + 1 := ⟨n - 1, by omega⟩
  rw [h]
  exact k m (by omega)
theorem Ev.congr {α : Type} {g f : Nat → Option α} {r : α} (h : ∀ k, g k = f k) (k : Ev f r) : Ev g r := by
  obtain ⟨K, k⟩ := k
  exact ⟨K, fun n hn => (h n).trans (k n hn)⟩
section
variable {P : Program} {ops : Array Oper} {o : Oper} {a : Act} {Q : Exit → Act → World → Prop} {K : Act → World → Prop}
end
theorem own_weaken {w : World} {base base' : Nat} {e : TypeId} {size n : Nat} {v : Value} {xs : List Value} (h : w.ownsRow base e size v n xs) (hb : base' ≤ base) : w.ownsRow base' e size v n xs := by
  obtain ⟨h1, h2⟩ := h
  refine ⟨h1, ?_⟩
  rcases h2 with h2 | ⟨g, cap, cur, rfl, hg, r⟩
  · exact .inl h2
  · exact .inr ⟨g, cap, cur, rfl, Nat.le_trans hb hg, r⟩
section
variable {α : Type} {enc : α → Value} {d : α}
def encs (enc : α → Value) (xs : List α) : List Value := xs.map enc
def rdOf (d : α) (xs : List α) (i : Int) : α := xs.getD i.toNat d
theorem encs_length (xs : List α) : (encs enc xs).length = xs.length := by simp [encs]
def ReadsOf (enc : α → Value) (d : α) (w : World) (A : Option Addr) (n : Nat) (xs : List α) : Prop :=
  xs.length = n ∧ n ≤ 9223372036854775807 ∧ (0 < n → ∃ ad, A = some ad ∧ ∀ j, j < n → w.cell? (ad.add j) = some (enc (xs.getD j d)))
theorem ReadsOf.at_ {w : World} {A : Option Addr} {n : Nat} {xs : List α} (h : ReadsOf enc d w A n xs) (i : Int) (h0 : 0 ≤ i) (h1 : i < n) : ∃ ad, A = some ad ∧ w.cell? (ad.add i.toNat) = some (enc (rdOf d xs i)) := by
  obtain ⟨ad, e, hc⟩ := h.2.2 (by omega)
  exact ⟨ad, e, hc _ (by omega)⟩
theorem ReadsOf.below {w w1 : World} {A : Option Addr} {n : Nat} {xs : List α} (h : ReadsOf enc d w A n xs) (hb : Below w.heap.size w w1) : ReadsOf enc d w1 A n xs :=
  ⟨h.1, h.2.1, fun hn => by
    obtain ⟨ad, e, hc⟩ := h.2.2 hn
    exact ⟨ad, e, fun j hj => pw_cell_below hb (hc j hj)⟩⟩
theorem ReadsOf.take_ {w : World} {A : Option Addr} {n : Nat} {xs : List α} (h : ReadsOf enc d w A n xs) (i : Nat) (hi : i ≤ n) : ReadsOf enc d w A i (xs.take i) := by
  refine ⟨by rw [List.length_take, h.1]; omega, by have := h.2.1; omega, fun hp => ?_⟩
  obtain ⟨ad, e, hc⟩ := h.2.2 (by omega)
  refine ⟨ad, e, fun j hj => ?_⟩
  rw [hc j (by omega)]
  simp [List.getD_eq_getElem?_getD, hj]
end
section
variable {α : Type} {P : Program} {ops : Array Oper} {rest : List Oper} {o : Oper} {a : Act} {Q : Exit → Act → World → Prop}
end
theorem blk_alloc {w : World} {g : Nat} {o : Obj} (h : w.heap[g]? = some o) (o' : Obj) : (w.alloc o').heap[g]? = some o := (Below.heap_alloc w o' g (blk_lt h)).trans h
theorem blk_drew {w : World} {g : Nat} {o : Obj} (h : w.heap[g]? = some o) : w.drew.heap[g]? = some o := h
theorem blk_drewN {w : World} {g : Nat} {o : Obj} (h : w.heap[g]? = some o) (n : Nat) : (w.drewN n).heap[g]? = some o := h
theorem blk_new (w : World) (o : Obj) : (w.alloc o).heap[w.heap.size]? = some o := heap_alloc_new w o
section
variable {P : Program}
end
theorem own_le {w : World} {base n m c size : Nat} {e : TypeId} {A : Option Addr} {xs : List Value} (h : w.ownsRow base e size (.slice A m c) n xs) : m ≤ c := by
  rcases h.2 with ⟨he, _⟩ | ⟨g, cap, cur, he, _, _, hnc, _⟩
  · injection he with _ h2 h3
    omega
  · injection he with _ h2 h3
    omega
def OwnRow {α : Type} (R : α → List Value → Prop) (e : TypeId) (size : Nat) (w : World) (base : Nat) (v : Value) (ps : List α) : Prop :=
  ∃ inner, w.ownsRow base e size v ps.length inner ∧ Reps R size ps inner
section
variable {α : Type} {R R' : α → List Value → Prop} {e : TypeId} {size : Nat} {w w1 : World} {base : Nat} {v : Value} {ps : List α}
theorem OwnRow.none_ (R : α → List Value → Prop) (e : TypeId) (size : Nat) (w : World) (base : Nat) : OwnRow R e size w base (.slice none 0 0) [] := ⟨[], own_nil _ _ _ _, Reps.none _ _⟩
theorem OwnRow.imp_ (h : OwnRow R e size w base v ps) (hR : ∀ p c, R p c → R' p c) : OwnRow R' e size w base v ps := by
  obtain ⟨inner, ho, hr⟩ := h
  exact ⟨inner, ho, hr.imp_ hR⟩
theorem OwnRow.below (h : OwnRow R e size w base v ps) (hb : Below w.heap.size w w1) : OwnRow R e size w1 base v ps := by
  obtain ⟨inner, ho, hr⟩ := h
  exact ⟨inner, pw_own_below ho hb, hr⟩
theorem OwnRow.reads (h : OwnRow R e size w base v ps) : ∃ A c, v = .slice A ps.length c ∧ ps.length ≤ c ∧ ReadsRow R size w A ps.length ps := by
  obtain ⟨inner, ho, hr⟩ := h
  obtain ⟨A, c, rfl, hrow⟩ := own_reads_row ho hr rfl
  exact ⟨A, c, rfl, own_le ho, hrow⟩
end
section
variable {P : Program} {ops : Array Oper} {rest : List Oper} {o : Oper} {a : Act} {Q : Exit → Act → World → Prop} {α : Type} {R : α → List Value → Prop}
theorem OwnRow.append {w0 W : World} (base : Nat) (hgd : o.guard = none) (s x : Operand) (t e : TypeId) (z : Value) (size bytes : Nat)
    (ho : o.op = .call { callee := .builtin .append, args := #[s, x], argTypes := #[t, t] })
    (ht : P.underlying t = some (.slice e)) (hinfo : (P.info? e).map (fun i => (i.zero, i.size, i.bytes)) = some (some z, size, bytes)) (hz : z.cells.size = size) (hs0 : 0 < size) (hb0 : 0 < bytes)
    (v : Value) (ps : List α) (p : α) (cs : List Value) (hs : a.eval s = v) (hx : a.eval x = .slice (some ⟨W.heap.size, 0, none⟩) 1 1) (hp : R p cs) (hcs : cs.length = size) (h1 : ∀ u ∈ cs, u.oneCell' = true)
    (HO : OwnRow R e size W base v ps) (HB : Below base w0 W) (hbase : base ≤ W.heap.size) (hl : (ps.length + 1) * bytes ≤ 140737488355328)
    (h : ∀ v1 w1, OwnRow R e size w1 base v1 (ps ++ [p]) → Below base w0 w1 → W.grownBy w1 v.ownBlock → (v1.ownBlock = v.ownBlock ∨ ∃ b, v1.ownBlock = some b ∧ W.heap.size ≤ b) → wpList P ops Q rest (a.put o.dst v1) w1) :
    wpList P ops Q (o :: rest) a (W.alloc (.cells cs.toArray e)) := by
  obtain ⟨inner, hown, hr⟩ := HO
  refine print_append_cells base hgd s x t e z size bytes ho ht hinfo hz hs0 hb0 v ps.length inner cs hs hx hcs h1 hown HB hbase hl ?_
  intro v1 w1 hown1 hb1 hg1 hat1
  exact h v1 w1 ⟨inner ++ cs, by rw [List.length_append, List.length_singleton]; exact hown1, hr.snoc hp hcs⟩ hb1 hg1 hat1
end
section
variable {P : Program} {ops : Array Oper} {o : Oper} {a : Act} {Q : Exit → Act → World → Prop} {K : Act → World → Prop} {α : Type} {R : α → List Value → Prop}
end
theorem ReadsRow.inner_ {α : Type} {R : α → List Value → Prop} {size : Nat} {w : World} {ad : Addr} {n : Nat} {ps : List α} (h : ReadsRow R size w (some ad) n ps) :
    ∃ inner, Reps R size ps inner ∧ ∀ j u, inner[j]? = some u → w.cell? (ad.add j) = some u := by
  have key : ∀ m, m ≤ ps.length → ∃ inner, Reps R size (ps.take m) inner ∧ ∀ j u, inner[j]? = some u → w.cell? (ad.add j) = some u := by
    intro m
    induction m with
    | zero => exact fun _ => ⟨[], Reps.none _ _, fun j u hu => by simp at hu⟩
    | succ m ih =>
      intro hm
      obtain ⟨inner, hr, hc⟩ := ih (by omega)
      obtain ⟨ad', he, hcell⟩ := h.2.2 (by have := h.1; omega)
      injection he with he
      subst he
      obtain ⟨c, hcl, hp, hcc⟩ := hcell m _ (List.getElem?_eq_getElem (show m < ps.length by omega))
      refine ⟨inner ++ c, ?_, fun j u hu => ?_⟩
      · rw [List.take_succ_eq_append_getElem (show m < ps.length by omega)]
        exact hr.snoc hp hcl
      · have hil : inner.length = m * size := by rw [hr.1, List.length_take, Nat.min_eq_left (by omega)]
        rcases Nat.lt_or_ge j inner.length with hj | hj
        · rw [List.getElem?_append_left hj] at hu
          exact hc j u hu
        · rw [List.getElem?_append_right hj] at hu
          have := hcc (j - inner.length) u hu
          rwa [hil, Nat.add_sub_cancel' (by omega)] at this
  obtain ⟨inner, hr, hc⟩ := key ps.length (Nat.le_refl _)
  rw [List.take_length] at hr
  exact ⟨inner, hr, hc⟩
section
variable {α : Type} {P : Program}
end
section
variable {P : Program} {ops : Array Oper} {rest : List Oper} {o : Oper} {a : Act} {Q : Exit → Act → World → Prop}
theorem print_append_str {w0 W : World} (base : Nat) (hgd : o.guard = none) (s x : Operand) (t u e : TypeId)
    (ho : o.op = .call { callee := .builtin .append, args := #[s, x], argTypes := #[t, u] })
    (ht : P.underlying t = some (.slice e)) (hu : P.underlying u = some .string) (hinfo : (P.info? e).map (fun i => (i.zero, i.size, i.bytes)) = some (some (.int .u8 0), 1, 1))
    (v : Value) (xs : List Int) (y : ByteArray) (hs : a.eval s = v) (hx : a.eval x = .string y)
    (HO : W.ownsRow base e 1 v xs.length (nums .u8 xs)) (HB : Below base w0 W) (hbase : base ≤ W.heap.size) (hl : xs.length + y.size ≤ 140737488355328)
    (h : ∀ v1 w1, w1.ownsRow base e 1 v1 (xs ++ bytesOf y).length (nums .u8 (xs ++ bytesOf y)) → Below base w0 w1 → W.grownBy w1 v.ownBlock → wpList P ops Q rest (a.put o.dst v1) w1) :
    wpList P ops Q (o :: rest) a W := by
  obtain ⟨i0, hi, hzz⟩ := Option.map_eq_some_iff.1 hinfo
  simp only [Prod.mk.injEq] at hzz
  obtain ⟨hz0, hz1, hz2⟩ := hzz
  refine Lib.wpList_append_own_string W hgd s x t u ho base e i0 ht hu hi hz0 hz1 hz2 v xs.length (nums .u8 xs) hs HO y hx (by simp only [maxLen]; omega) hl hbase ?_
  intro v1 w1 hown hg _
  have hl2 : (xs ++ bytesOf y).length = xs.length + y.size := by rw [List.length_append, bytesOf_length]
  have hc : nums .u8 (xs ++ bytesOf y) = nums .u8 xs ++ Lib.strCells y := by
    rw [nums_append]
    congr 1
    simp [nums, bytesOf, Lib.strCells]
  exact h v1 w1 (by rw [hl2, hc]; exact hown) (HB.grown hg hbase (own_base HO)) hg
end
structure Kd (α : Type) where
  sz : Nat
  E : List Nat
  K : World → α → List Value → Prop
  M : World → Nat → (Nat → Prop) → α → List Value → Prop
  K_len : ∀ {w x cs}, K w x cs → cs.length = sz
  K_one : ∀ {w x cs}, K w x cs → ∀ u ∈ cs, u.oneCell' = true
  K_below : ∀ {w w1 : World} {x cs}, Below w.heap.size w w1 → K w x cs → K w1 x cs
  K_of_M : ∀ {w base ok x cs}, M w base ok x cs → K w x cs
  M_mono : ∀ {w base ok ok' x cs}, (∀ k, ok k → ok' k) → M w base ok x cs → M w base ok' x cs
  M_bound : ∀ {w : World} {base ok x cs}, M w base ok x cs → M w base (fun k => ok k ∧ base ≤ k ∧ k < w.heap.size ∧ ∃ q, q ∈ E ∧ ∃ cells, w.heap[k]? = some (.cells cells q (0, 0))) x cs
  M_move : ∀ {w w1 : World} {base ok x cs}, (∀ k, ok k → w1.heap[k]? = w.heap[k]?) → M w base ok x cs → M w1 base ok x cs
  M_lower : ∀ {w base base' ok x cs}, base' ≤ base → M w base ok x cs → M w base' ok x cs
theorem own_move {w w1 : World} {base : Nat} {e : TypeId} {size n : Nat} {v : Value} {xs : List Value} (h : w.ownsRow base e size v n xs) (hm : ∀ k, v.ownBlock = some k → w1.heap[k]? = w.heap[k]?) : w1.ownsRow base e size v n xs := by
  obtain ⟨h1, h2⟩ := h
  refine ⟨h1, ?_⟩
  rcases h2 with h2 | ⟨g, cap, cur, rfl, hg, hh, r⟩
  · exact .inl h2
  · exact .inr ⟨g, cap, cur, rfl, hg, (hm g (by simp [Value.ownBlock])).trans hh, r⟩
theorem own_typed {w : World} {base : Nat} {e : TypeId} {size n : Nat} {v : Value} {xs : List Value} (h : w.ownsRow base e size v n xs) (k : Nat) (hk : v.ownBlock = some k) : ∃ cells, w.heap[k]? = some (.cells cells e (0, 0)) := by
  rcases h.2 with ⟨rfl, _⟩ | ⟨g, cap, cur, rfl, hg, hh, r⟩
  · simp [Value.ownBlock] at hk
  · have : g = k := by simpa [Value.ownBlock] using hk
    subst this
    exact ⟨cur, hh⟩
namespace Kd
def C {α : Type} (d : Kd α) (w : World) (A : Option Addr) (n : Nat) (xs : List α) : Prop := ReadsRow (d.K w) d.sz w A n xs
def R {α : Type} (d : Kd α) (e : Nat) (w : World) (base : Nat) (ok : Nat → Prop) (v : Value) (xs : List α) : Prop :=
  (∀ k, v.ownBlock = some k → ok k) ∧ OwnRow (d.M w base (fun k => ok k ∧ some k ≠ v.ownBlock)) e d.sz w base v xs
section
variable {α : Type} {d : Kd α} {e : Nat} {w w1 : World} {base : Nat} {ok ok' : Nat → Prop} {v : Value} {xs : List α}
theorem C_below {A : Option Addr} {n : Nat} (h : d.C w A n xs) (hb : Below w.heap.size w w1) : d.C w1 A n xs := ReadsRow.imp_ h hb (fun _ _ hp => d.K_below hb hp)
theorem R_nil (d : Kd α) (e : Nat) (w : World) (base : Nat) (ok : Nat → Prop) : d.R e w base ok (.slice none 0 0) [] := ⟨fun k hk => by simp [Value.ownBlock] at hk, OwnRow.none_ _ _ _ _ _⟩
theorem R_mono (h : d.R e w base ok v xs) (hok : ∀ k, ok k → ok' k) : d.R e w base ok' v xs := ⟨fun k hk => hok k (h.1 k hk), h.2.imp_ (fun _ _ hp => d.M_mono (fun k hk => ⟨hok k hk.1, hk.2⟩) hp)⟩
theorem R_bound (h : d.R e w base ok v xs) : d.R e w base (fun k => ok k ∧ base ≤ k ∧ k < w.heap.size ∧ ∃ q, q ∈ e :: d.E ∧ ∃ cells, w.heap[k]? = some (.cells cells q (0, 0))) v xs := by
  obtain ⟨h0, inner, ho, hr⟩ := h
  refine ⟨fun k hk => ?_, inner, ho, hr.imp_ (fun _ _ hp => d.M_mono (fun k hk => ?_) (d.M_bound hp))⟩
  · obtain ⟨cells, hc⟩ := own_typed ho k hk
    exact ⟨h0 k hk, own_base ho k hk, own_lt ho k hk, e, List.mem_cons_self, cells, hc⟩
  · obtain ⟨⟨h1, h2⟩, h3, h4, q, hq, hc⟩ := hk
    exact ⟨⟨h1, h3, h4, q, List.mem_cons_of_mem _ hq, hc⟩, h2⟩
theorem R_move (h : d.R e w base ok v xs) (hm : ∀ k, ok k → w1.heap[k]? = w.heap[k]?) : d.R e w1 base ok v xs := by
  obtain ⟨h0, inner, ho, hr⟩ := h
  exact ⟨h0, inner, own_move ho (fun k hk => hm k (h0 k hk)), hr.imp_ (fun _ _ hp => d.M_move (fun k hk => hm k hk.1) hp)⟩
theorem R_lower {base' : Nat} (h : d.R e w base ok v xs) (hb : base' ≤ base) : d.R e w base' ok v xs := by
  obtain ⟨h0, inner, ho, hr⟩ := h
  exact ⟨h0, inner, own_weaken ho hb, hr.imp_ (fun _ _ hp => d.M_lower hb hp)⟩
theorem R_step (h : d.R e w base ok v xs) (hm : ∀ k, ok k → k < w.heap.size → w1.heap[k]? = w.heap[k]?) : d.R e w1 base ok v xs :=
  R_mono (R_move (R_bound h) (fun k hk => hm k hk.1 hk.2.2.1)) (fun _ hk => hk.1)
theorem M_step {x : α} {cs : List Value} (h : d.M w base ok x cs) (hm : ∀ k, ok k → k < w.heap.size → w1.heap[k]? = w.heap[k]?) : d.M w1 base ok x cs :=
  d.M_mono (fun _ hk => hk.1) (d.M_move (fun k hk => hm k hk.1 hk.2.2.1) (d.M_bound h))
theorem R_below (h : d.R e w base ok v xs) (hb : Below w.heap.size w w1) : d.R e w1 base ok v xs := R_step h (fun k _ hk => hb.block k hk)
theorem M_below {x : α} {cs : List Value} (h : d.M w base ok x cs) (hb : Below w.heap.size w w1) : d.M w1 base ok x cs := M_step h (fun k _ hk => hb.block k hk)
theorem R_reads (h : d.R e w base ok v xs) : ∃ A c, v = .slice A xs.length c ∧ xs.length ≤ c ∧ d.C w A xs.length xs := by
  obtain ⟨A, c, he, hl, hr⟩ := OwnRow.reads h.2
  exact ⟨A, c, he, hl, hr.imp_ (Below.refl _ _) (fun _ _ hp => d.K_of_M hp)⟩
theorem R_slice (h : d.R e w base ok v xs) : ∃ A c, v = .slice A xs.length c := by
  obtain ⟨A, c, he, _⟩ := R_reads h
  exact ⟨A, c, he⟩
theorem R_own (h : d.R e w base ok v xs) : ∃ inner, w.ownsRow base e d.sz v xs.length inner := by
  obtain ⟨_, inner, ho, _⟩ := h
  exact ⟨inner, ho⟩
end
def scalar {α : Type} (enc : α → Value) (h1 : ∀ x, (enc x).oneCell' = true) : Kd α where
  sz := 1
  E := []
  K := fun _ x cs => cs = [enc x]
  M := fun _ _ _ x cs => cs = [enc x]
  K_len := fun h => by rw [h]; rfl
  K_one := fun h u hu => by
    rw [h] at hu
    rw [List.mem_singleton.1 hu]
    exact h1 _
  K_below := fun _ h => h
  K_of_M := fun h => h
  M_mono := fun _ h => h
  M_bound := fun h => h
  M_move := fun _ h => h
  M_lower := fun _ h => h
def int (k : IntKind) : Kd Int := scalar (Value.int k) (fun _ => rfl)
def bool : Kd Bool := scalar Value.bool (fun _ => rfl)
def string : Kd ByteArray := scalar Value.string (fun _ => rfl)
def slice {α : Type} (e : Nat) (d : Kd α) : Kd (List α) where
  sz := 1
  E := e :: d.E
  K := fun w xs cs => ∃ A c, cs = [.slice A xs.length c] ∧ xs.length ≤ c ∧ d.C w A xs.length xs
  M := fun w base ok xs cs => ∃ v, cs = [v] ∧ d.R e w base ok v xs
  K_len := by
    rintro w x cs ⟨A, c, rfl, _⟩
    rfl
  K_one := by
    rintro w x cs ⟨A, c, rfl, _⟩ u hu
    rw [List.mem_singleton.1 hu]
    rfl
  K_below := by
    rintro w w1 x cs hb ⟨A, c, rfl, hl, hr⟩
    exact ⟨A, c, rfl, hl, C_below hr hb⟩
  K_of_M := by
    rintro w base ok x cs ⟨v, rfl, h⟩
    obtain ⟨A, c, rfl, hl, hr⟩ := R_reads h
    exact ⟨A, c, rfl, hl, hr⟩
  M_mono := by
    rintro w base ok ok' x cs hok ⟨v, rfl, h⟩
    exact ⟨v, rfl, R_mono h hok⟩
  M_bound := by
    rintro w base ok x cs ⟨v, rfl, h⟩
    exact ⟨v, rfl, R_bound h⟩
  M_move := by
    rintro w w1 base ok x cs hm ⟨v, rfl, h⟩
    exact ⟨v, rfl, R_move h hm⟩
  M_lower := by
    rintro w base base' ok x cs hb ⟨v, rfl, h⟩
    exact ⟨v, rfl, R_lower h hb⟩
def bot {α : Type} (sz : Nat) (E : List Nat) : Kd α where
  sz := sz
  E := E
  K := fun _ _ _ => False
  M := fun _ _ _ _ _ => False
  K_len := fun h => h.elim
  K_one := fun h => h.elim
  K_below := fun _ h => h
  K_of_M := fun h => h
  M_mono := fun _ h => h
  M_bound := fun h => h
  M_move := fun _ h => h
  M_lower := fun _ h => h
def upto {α : Type} (F : Kd α → Kd α) (sz : Nat) (E : List Nat) : Nat → Kd α
  | 0 => bot sz E
  | n + 1 => F (upto F sz E n)
theorem C_get {α : Type} {d : Kd α} {w : World} {A : Option Addr} {n : Nat} {xs : List α} (h : d.C w A n xs) (z : α) (i : Int) (h0 : 0 ≤ i) (h1 : i < n) :
    ∃ ad c, A = some ad ∧ c.length = d.sz ∧ d.K w (xs.getD i.toNat z) c ∧ ∀ j u, c[j]? = some u → w.cell? (ad.add (i.toNat * d.sz + j)) = some u := ReadsRow.get_ h z i h0 h1
theorem R_appended {α : Type} {d : Kd α} {e base : Nat} {ok okp : Nat → Prop} {W w1 : World} {v v1 : Value} {xs : List α} {p : α} {inner cs : List Value} (h0 : ∀ k, v.ownBlock = some k → ok k) (hr : Reps (d.M W base (fun k => ok k ∧ some k ≠ v.ownBlock)) d.sz xs inner) (hp : d.M W base okp p cs) (hokp : ∀ k, okp k → ok k ∧ some k ≠ v.ownBlock) (hfresh : ∀ k, W.heap.size ≤ k → ok k)
    (hown : w1.ownsRow base e d.sz v1 (xs.length + 1) (inner ++ cs)) (hg : W.grownBy w1 v.ownBlock) (hat : v1.ownBlock = v.ownBlock ∨ ∃ b, v1.ownBlock = some b ∧ W.heap.size ≤ b) : d.R e w1 base ok v1 (xs ++ [p]) := by
  have hne : ∀ k, some k ≠ v.ownBlock → k < W.heap.size → some k ≠ v1.ownBlock := by
    intro k hk hlt
    rcases hat with hat | ⟨b, hb, hle⟩
    · rw [hat]; exact hk
    · rw [hb]
      intro he
      injection he with he
      omega
  have step : ∀ {q : α} {c : List Value} {o : Nat → Prop}, d.M W base o q c → (∀ k, o k → ok k ∧ some k ≠ v.ownBlock) → d.M w1 base (fun k => ok k ∧ some k ≠ v1.ownBlock) q c := by
    intro q c o hq ho
    have h1 := d.M_move (w1 := w1) (fun k hk => hg.block k hk.2.2.1 (ho k hk.1).2) (d.M_bound hq)
    exact d.M_mono (fun k hk => ⟨(ho k hk.1).1, hne k (ho k hk.1).2 hk.2.2.1⟩) h1
  refine ⟨fun k hk => ?_, inner ++ cs, by rw [List.length_append, List.length_singleton]; exact hown, ?_⟩
  · rcases hat with hat | ⟨b, hb, hle⟩
    · exact h0 k (hat ▸ hk)
    · rw [hb] at hk
      injection hk with hk
      exact hfresh k (by omega)
  · exact (hr.imp_ (fun _ _ hq => step hq (fun _ hk => hk))).snoc (step hp hokp) (d.K_len (d.K_of_M hp))
section
variable {P : Program} {ops : Array Oper} {rest : List Oper} {o : Oper} {a : Act} {Q : Exit → Act → World → Prop} {α : Type}
theorem R_append (d : Kd α) {w0 W : World} (base : Nat) (hgd : o.guard = none) (s x : Operand) (t e : TypeId) (z : Value) (bytes : Nat)
    (ho : o.op = .call { callee := .builtin .append, args := #[s, x], argTypes := #[t, t] })
    (ht : P.underlying t = some (.slice e)) (hinfo : (P.info? e).map (fun i => (i.zero, i.size, i.bytes)) = some (some z, d.sz, bytes)) (hz : z.cells.size = d.sz) (hs0 : 0 < d.sz) (hb0 : 0 < bytes)
    (v : Value) (xs : List α) (p : α) (cs : List Value) (ok okp : Nat → Prop) (hs : a.eval s = v) (hx : a.eval x = .slice (some ⟨W.heap.size, 0, none⟩) 1 1) (hp : d.M W base okp p cs) (hokp : ∀ k, okp k → ok k ∧ some k ≠ v.ownBlock) (hfresh : ∀ k, W.heap.size ≤ k → ok k)
    (HO : d.R e W base ok v xs) (HB : Below base w0 W) (hbase : base ≤ W.heap.size) (hl : (xs.length + 1) * bytes ≤ 140737488355328)
    (h : ∀ v1 w1, d.R e w1 base ok v1 (xs ++ [p]) → Below base w0 w1 → W.grownBy w1 v.ownBlock → (v1.ownBlock = v.ownBlock ∨ ∃ b, v1.ownBlock = some b ∧ W.heap.size ≤ b) → wpList P ops Q rest (a.put o.dst v1) w1) :
    wpList P ops Q (o :: rest) a (W.alloc (.cells cs.toArray e)) := by
  obtain ⟨h0, inner, hown, hr⟩ := HO
  refine print_append_cells base hgd s x t e z d.sz bytes ho ht hinfo hz hs0 hb0 v xs.length inner cs hs hx (d.K_len (d.K_of_M hp)) (d.K_one (d.K_of_M hp)) hown HB hbase hl ?_
  intro v1 w1 hown1 hb1 hg1 hat1
  exact h v1 w1 (R_appended h0 hr hp hokp hfresh hown1 hg1 hat1) hb1 hg1 hat1
end
section
variable {P : Program} {ops : Array Oper} {o : Oper} {a : Act} {Q : Exit → Act → World → Prop} {Kc : Act → World → Prop} {α : Type}
end
theorem reps_scalar {α : Type} {enc : α → Value} (xs : List α) : Reps (fun (x : α) (cs : List Value) => cs = [enc x]) 1 xs (encs enc xs) := by
  refine ⟨by simp [encs], fun j p hj => ?_⟩
  obtain ⟨hl, hp⟩ := List.getElem?_eq_some_iff.1 hj
  have hl' : j < (encs enc xs).length := by rw [encs_length]; exact hl
  rw [Nat.mul_one, List.drop_eq_getElem_cons hl']
  simp [encs, hp]
theorem R_of_own {α : Type} {enc : α → Value} {h1 : ∀ x, (enc x).oneCell' = true} {e : Nat} {w : World} {base : Nat} {ok : Nat → Prop} {v : Value} {xs : List α} (ho : w.ownsRow base e 1 v xs.length (encs enc xs)) (hok : ∀ k, v.ownBlock = some k → ok k) : (scalar enc h1).R e w base ok v xs := ⟨hok, encs enc xs, ho, reps_scalar xs⟩
theorem own_of_R {α : Type} {enc : α → Value} {h1 : ∀ x, (enc x).oneCell' = true} {e : Nat} {w : World} {base : Nat} {ok : Nat → Prop} {v : Value} {xs : List α} (h : (scalar enc h1).R e w base ok v xs) : w.ownsRow base e 1 v xs.length (encs enc xs) := by
  obtain ⟨_, inner, ho, hr⟩ := h
  have : inner = encs enc xs := by
    apply List.ext_getElem?
    intro j
    rcases Nat.lt_or_ge j xs.length with hj | hj
    · have h2 := hr.2 j _ (List.getElem?_eq_getElem hj)
      have hl : j < inner.length := by have := hr.1; simp [scalar] at this; omega
      have h3 : (inner.drop (j * 1)).take 1 = [enc xs[j]] := h2
      rw [Nat.mul_one, List.drop_eq_getElem_cons hl] at h3
      have h4 : inner[j] = enc xs[j] := by
        have h5 := congrArg List.head? h3
        rw [List.take_succ_cons] at h5
        exact Option.some.inj h5
      rw [List.getElem?_eq_getElem hl, h4]
      simp [encs, List.getElem?_eq_getElem hj]
    · have h3 : inner.length = xs.length := by have := hr.1; simp [scalar] at this; omega
      rw [List.getElem?_eq_none (by omega), List.getElem?_eq_none (by rw [encs_length]; omega)]
  rw [← this]
  exact ho
theorem C_of_reads {α : Type} {enc : α → Value} {d : α} {h1 : ∀ x, (enc x).oneCell' = true} {w : World} {A : Option Addr} {n : Nat} {xs : List α} (h : ReadsOf enc d w A n xs) : (scalar enc h1).C w A n xs := by
  refine ⟨h.1, h.2.1, fun hn => ?_⟩
  obtain ⟨ad, e, hc⟩ := h.2.2 hn
  refine ⟨ad, e, fun j p hj => ⟨[enc p], rfl, rfl, fun i u hu => ?_⟩⟩
  obtain ⟨hl, hp⟩ := List.getElem?_eq_some_iff.1 hj
  have h2 := hc j (by have := h.1; omega)
  rw [List.getD_eq_getElem?_getD, hj] at h2
  cases i with
  | zero =>
    have : enc p = u := by simpa using hu
    subst this
    simpa [scalar] using h2
  | succ i => simp at hu
theorem reads_of_C {α : Type} {enc : α → Value} {d : α} {h1 : ∀ x, (enc x).oneCell' = true} {w : World} {A : Option Addr} {n : Nat} {xs : List α} (h : (scalar enc h1).C w A n xs) : ReadsOf enc d w A n xs := by
  refine ⟨h.1, h.2.1, fun hn => ?_⟩
  obtain ⟨ad, e, hc⟩ := h.2.2 hn
  refine ⟨ad, e, fun j hj => ?_⟩
  have hl : j < xs.length := by have := h.1; omega
  obtain ⟨c, _, hK, hcell⟩ := hc j _ (List.getElem?_eq_getElem hl)
  have hK' : c = [enc xs[j]] := hK
  subst hK'
  have := hcell 0 _ rfl
  simpa [scalar, List.getD_eq_getElem?_getD, List.getElem?_eq_getElem hl] using this
end Kd
namespace Kd
section
variable {α : Type} {F : Kd α → Kd α} {sz : Nat} {E : List Nat} {hs : ∀ n, (upto F sz E n).sz = sz} {hE : ∀ n q, q ∈ (upto F sz E n).E → q ∈ E}
end
end Kd
namespace Kd
theorem R_after {α : Type} {d : Kd α} {e base : Nat} {ok : Nat → Prop} {W w1 : World} {u v v1 : Value} {xs : List α} (h : d.R e W base (fun k => ok k ∧ some k ≠ v.ownBlock) u xs) (hg : W.grownBy w1 v.ownBlock) (hat : v1.ownBlock = v.ownBlock ∨ ∃ b, v1.ownBlock = some b ∧ W.heap.size ≤ b) : d.R e w1 base (fun k => ok k ∧ some k ≠ v1.ownBlock) u xs := by
  refine R_mono (R_move (R_bound h) (fun k hk => hg.block k hk.2.2.1 hk.1.2)) (fun k hk => ⟨hk.1.1, ?_⟩)
  rcases hat with hat | ⟨b, hb, hle⟩
  · rw [hat]; exact hk.1.2
  · rw [hb]
    intro he
    injection he with he
    have := hk.2.2.1
    omega
theorem R_apart_nil {α : Type} {d : Kd α} {e base : Nat} {ok : Nat → Prop} {w : World} {u : Value} {xs : List α} (h : d.R e w base ok u xs) : d.R e w base (fun k => ok k ∧ some k ≠ (Value.slice none 0 0).ownBlock) u xs := R_mono h (fun k hk => ⟨hk, by simp [Value.ownBlock]⟩)
end Kd
namespace Kd
section
variable {α β : Type} {d : Kd α} {d' : Kd β} {e e' : Nat} {w w1 W : World} {base b b' : Nat} {ok ok' okv oku : Nat → Prop} {v u : Value} {xs : List α} {ys : List β}
theorem R_alloc (h : d.R e w base ok v xs) (o : Obj) : d.R e (w.alloc o) base ok v xs := R_below h (below_alloc (Below.refl _ _) o)
theorem R_drew (h : d.R e w base ok v xs) : d.R e w.drew base ok v xs := R_below h (below_drew (Below.refl _ _))
theorem R_drewN (h : d.R e w base ok v xs) (m : Nat) : d.R e (w.drewN m) base ok v xs := R_below h (pw_below_drewN (Below.refl _ _) m)
theorem C_alloc {A : Option Addr} {n : Nat} (h : d.C w A n xs) (o : Obj) : d.C (w.alloc o) A n xs := C_below h (below_alloc (Below.refl _ _) o)
theorem C_drew {A : Option Addr} {n : Nat} (h : d.C w A n xs) : d.C w.drew A n xs := C_below h (below_drew (Below.refl _ _))
theorem C_drewN {A : Option Addr} {n : Nat} (h : d.C w A n xs) (m : Nat) : d.C (w.drewN m) A n xs := C_below h (pw_below_drewN (Below.refl _ _) m)
theorem C_nil (d : Kd α) (w : World) : d.C w none ([] : List α).length [] := ⟨rfl, by simp, fun h => absurd h (Nat.lt_irrefl 0)⟩
theorem R_reads' {A : Option Addr} {n c : Nat} (h : d.R e w base ok (.slice A n c) xs) : n = xs.length ∧ n ≤ c ∧ d.C w A xs.length xs := by
  obtain ⟨A', c', he, hl, hr⟩ := R_reads h
  injection he with h1 h2 h3
  subst h1
  exact ⟨h2, by omega, hr⟩
theorem R_lt (h : d.R e w base ok v xs) : ∀ k, v.ownBlock = some k → k < w.heap.size := by
  obtain ⟨inner, ho⟩ := R_own h
  exact own_lt ho
theorem R_base (h : d.R e w base ok v xs) : ∀ k, v.ownBlock = some k → base ≤ k := by
  obtain ⟨inner, ho⟩ := R_own h
  exact own_base ho
end
section
variable {w W : World} {A : Option Addr} {n : Nat}
theorem at_int {k : IntKind} {xs : List Int} (h : (Kd.int k).C w A n xs) (i : Int) (h0 : 0 ≤ i) (h1 : i < n) : ∃ ad, A = some ad ∧ w.cell? (ad.add i.toNat) = some (.int k (rd xs i)) :=
  ReadsOf.at_ (reads_of_C (enc := Value.int k) (d := (0 : Int)) (h1 := fun _ => rfl) h) i h0 h1
theorem at_string {xs : List ByteArray} (h : Kd.string.C w A n xs) (i : Int) (h0 : 0 ≤ i) (h1 : i < n) : ∃ ad, A = some ad ∧ w.cell? (ad.add i.toNat) = some (.string (rdOf ByteArray.empty xs i)) :=
  ReadsOf.at_ (reads_of_C (enc := Value.string) (d := ByteArray.empty) (h1 := fun _ => rfl) h) i h0 h1
variable {α : Type} {enc : α → Value} {h1 : ∀ x, (enc x).oneCell' = true} {e base g cap : Nat} {ok : Nat → Prop} {xs : List α}
end
section
variable {P : Program} {ops : Array Oper} {rest : List Oper} {o : Oper} {a : Act} {Q : Exit → Act → World → Prop}
theorem event_run {W w1 : World} {v : Value} (hgd : o.guard = none) (hrun : (execOp a.eval o).run P W = .ok (.value v) w1) (h : wpList P ops Q rest (a.put o.dst v) w1) : wpList P ops Q (o :: rest) a W := by
  refine wpList_plain hgd fun K hK => ?_
  unfold Oper.wp
  rw [hrun]
  exact hK _ _ h
variable {α : Type}
theorem R_lit (d : Kd α) {w0 W : World} (base e : Nat) (hgd : o.guard = none) {N : Tmp} (_hd : o.dst = some N) {xs : List α} {inner : List Value} {ok okp : Nat → Prop}
    (hrun : (execOp a.eval o).run P W = .ok (.value (.slice (some ⟨W.heap.size, 0, none⟩) xs.length xs.length)) (W.alloc (.cells inner.toArray e)))
    (hrep : Reps (d.M W base okp) d.sz xs inner) (hok : ∀ k, okp k → ok k) (hfresh : ok W.heap.size) (HB : Below base w0 W) (hbase : base ≤ W.heap.size) (hm : xs.length ≤ 9223372036854775807)
    (h : ∀ v1 w1, d.R e w1 base ok v1 xs → Below base w0 w1 → W.grownBy w1 none → (∃ b, v1.ownBlock = some b ∧ W.heap.size ≤ b) → wpList P ops Q rest (a.put o.dst v1) w1) : wpList P ops Q (o :: rest) a W := by
  refine event_run hgd hrun (h _ _ ⟨fun k hk => ?_, inner, ?_, ?_⟩ (HB.alloc hbase _) (World.grownBy_alloc W _ none) ⟨W.heap.size, by simp [Value.ownBlock], Nat.le_refl _⟩)
  · have : W.heap.size = k := by simpa [Value.ownBlock] using hk
    subst this
    exact hfresh
  · have h2 := World.ownsRow_lit (base := base) (e := e) (size := d.sz) W inner.toArray xs.length hbase (by simpa [maxLen] using hm) (by simpa using hrep.1)
    simpa using h2
  · refine hrep.imp_ (fun p c hp => d.M_mono (fun k hk => ⟨hok k hk.1, fun he => ?_⟩) (M_below (d.M_bound hp) (below_alloc (Below.refl _ _) _)))
    have h3 : k = W.heap.size := by simpa [Value.ownBlock] using he
    have := hk.2.2.1
    omega
end
end Kd
theorem own_take {w : World} {base n m c size : Nat} {e : TypeId} {A : Option Addr} {xs : List Value} (h : w.ownsRow base e size (.slice A n c) n xs) (hm : m ≤ n) : w.ownsRow base e size (.slice A m c) m (xs.take (m * size)) := by
  obtain ⟨h1, h2⟩ := h
  refine ⟨by rw [List.length_take, h1]; exact Nat.min_eq_left (Nat.mul_le_mul_right _ hm), ?_⟩
  rcases h2 with ⟨he, h0⟩ | ⟨g, cap, cur, he, hb, hh, hnc, hcm, hcs, ht⟩
  · injection he with ha _ hc
    subst ha; subst hc
    exact .inl ⟨by rw [show m = 0 by omega], by omega⟩
  · injection he with ha _ hc
    subst ha; subst hc
    refine .inr ⟨g, c, cur, rfl, hb, hh, by omega, hcm, hcs, ?_⟩
    rw [← ht, List.take_take, Nat.min_eq_left (Nat.mul_le_mul_right _ hm)]
section
variable {P : Program}
theorem cut_to (t e : TypeId) (kh : IntKind) {i : TypeInfo} (ht : P.underlying t = some (.slice e)) (hi : P.info? e = some i) (A : Option Addr) (n c : Nat) (j : Int) (h0 : 0 ≤ j) (hm : j ≤ n) (hc : n ≤ c) :
    ∀ W : World, (Instr.slice t (.slice A n c) none (some (.int kh j)) none).run P W = .ok (.slice A j.toNat c) W := by
  intro W
  have hel : P.elem t = e := by simp [Program.elem, ht]
  have hu : P.underlying t = some (.slice (P.elem t)) := by rw [hel]; exact ht
  have ha : (A.map fun x => x.add 0) = A := by cases A <;> simp [Addr.add]
  rw [run_slice_h W t A n c hu kh j h0 (by omega), hel]
  simp [sizeOf, typeInfo, hi, sliced, Result.andThen, ha]
theorem cut_from (t e : TypeId) (kl : IntKind) {i : TypeInfo} (ht : P.underlying t = some (.slice e)) (hi : P.info? e = some i) (size : Nat) (hsz : i.size = size) (A : Option Addr) (n c : Nat) (j : Int) (h0 : 0 ≤ j) (hm : j ≤ n) :
    ∀ W : World, (Instr.slice t (.slice A n c) (some (.int kl j)) none none).run P W = .ok (.slice (if c = j.toNat then A else A.map (·.add (j.toNat * size))) (n - j.toNat) (c - j.toNat)) W := by
  intro W
  have hel : P.elem t = e := by simp [Program.elem, ht]
  have hu : P.underlying t = some (.slice (P.elem t)) := by rw [hel]; exact ht
  rw [run_slice_l W t A n c hu kl j h0 hm, hel]
  simp [sizeOf, typeInfo, hi, hsz, sliced, Result.andThen]
end
def QRow (w : World) (base : Nat) (e : TypeId) (size : Nat) (v : Value) (n : Nat) (xs : List Value) : Prop :=
  xs.length = n * size ∧
  ((n = 0 ∧ ∃ A, v = .slice A 0 0 ∧ ∀ a, A = some a → base ≤ a.block ∧ ∃ cur, w.heap[a.block]? = some (.cells cur e (0, 0))) ∨
   ∃ g off cap cur, v = .slice (some ⟨g, off * size, none⟩) n cap ∧ base ≤ g ∧ w.heap[g]? = some (.cells cur e (0, 0)) ∧ n ≤ cap ∧ off + cap ≤ maxLen ∧ cur.size = (off + cap) * size ∧ (cur.toList.drop (off * size)).take (n * size) = xs)
section
variable {w w1 : World} {base n size : Nat} {e : TypeId} {v : Value} {xs : List Value}
theorem q_of_own (h : w.ownsRow base e size v n xs) : QRow w base e size v n xs := by
  obtain ⟨h1, h2⟩ := h
  refine ⟨h1, ?_⟩
  rcases h2 with ⟨rfl, h0⟩ | ⟨g, cap, cur, rfl, hb, hh, hnc, hcm, hcs, ht⟩
  · exact .inl ⟨h0, none, rfl, fun a ha => by cases ha⟩
  · exact .inr ⟨g, 0, cap, cur, by rw [Nat.zero_mul], hb, hh, hnc, by rw [Nat.zero_add]; exact hcm, by rw [Nat.zero_add]; exact hcs, by rw [Nat.zero_mul, List.drop_zero]; exact ht⟩
end
section
variable {P : Program}
end
namespace Kd
theorem reps_take {α : Type} {R : α → List Value → Prop} {size m : Nat} {ps : List α} {cs : List Value} (h : Reps R size ps cs) (hm : m ≤ ps.length) : Reps R size (ps.take m) (cs.take (m * size)) := by
  refine ⟨by rw [List.length_take, List.length_take, h.1, Nat.min_eq_left hm, Nat.min_eq_left (Nat.mul_le_mul_right _ hm)], fun j p hj => ?_⟩
  rw [List.getElem?_take] at hj
  split at hj
  · rename_i hjm
    have := h.2 j p hj
    have hle : j * size + size ≤ m * size := by rw [← Nat.succ_mul]; exact Nat.mul_le_mul_right _ hjm
    rw [List.drop_take, List.take_take, Nat.min_eq_left (by omega)]
    exact this
  · cases hj
theorem R_take {α : Type} {d : Kd α} {e m n c : Nat} {w : World} {base : Nat} {ok : Nat → Prop} {A : Option Addr} {xs : List α} (h : d.R e w base ok (.slice A n c) xs) (hm : m ≤ xs.length) : d.R e w base ok (.slice A m c) (xs.take m) := by
  obtain ⟨h0, inner, ho, hr⟩ := h
  have hn : n = xs.length := by
    obtain ⟨A', c', he⟩ := own_slice ho
    injection he
  subst hn
  have hb : ∀ x y : Nat, (Value.slice A x c).ownBlock = (Value.slice A y c).ownBlock := by
    intro x y
    cases A <;> rfl
  refine ⟨fun k hk => h0 k (by rw [hb _ m]; exact hk), inner.take (m * d.sz), ?_, ?_⟩
  · rw [List.length_take, Nat.min_eq_left hm]
    exact own_take ho hm
  · rw [hb m xs.length]
    exact reps_take hr hm
def Q {α : Type} (d : Kd α) (e : Nat) (w : World) (base : Nat) (ok : Nat → Prop) (v : Value) (xs : List α) : Prop :=
  (∀ k, v.ownBlock = some k → ok k) ∧ ∃ inner, QRow w base e d.sz v xs.length inner ∧ Reps (d.M w base (fun k => ok k ∧ some k ≠ v.ownBlock)) d.sz xs inner
section
variable {α : Type} {d : Kd α} {e : Nat} {w w1 W : World} {base : Nat} {ok ok' : Nat → Prop} {v : Value} {xs : List α}
theorem Q_of_R (h : d.R e w base ok v xs) : d.Q e w base ok v xs := by
  obtain ⟨h0, inner, ho, hr⟩ := h
  exact ⟨h0, inner, q_of_own ho, hr⟩
theorem Q_nil (d : Kd α) (e : Nat) (w : World) (base : Nat) (ok : Nat → Prop) : d.Q e w base ok (.slice none 0 0) [] := Q_of_R (R_nil d e w base ok)
end
section
variable {P : Program} {ops : Array Oper} {rest : List Oper} {o : Oper} {a : Act} {Q' : Exit → Act → World → Prop} {Kc : Act → World → Prop} {α : Type}
end
end Kd
namespace Kd
section
variable {α : Type} {d : Kd α} {e e' : Nat} {w w1 W : World} {base : Nat} {ok : Nat → Prop} {u v : Value} {xs : List α}
theorem fresh' (hlt : ∀ k, u.ownBlock = some k → k < W.heap.size) : ∀ k, W.heap.size ≤ k → some k ≠ u.ownBlock := fun k hk he => by have := hlt k he.symm; omega
end
end Kd
namespace Kd
section
variable {α : Type} {d : Kd α} {e base g n cap : Nat} {ok okp : Nat → Prop} {W : World} {xs : List α}
end
end Kd
namespace Kd
section
variable {α : Type} {F : Kd α → Kd α} {sz : Nat} {E : List Nat} {hs : ∀ n, (upto F sz E n).sz = sz} {hE : ∀ n q, q ∈ (upto F sz E n).E → q ∈ E}
end
end Kd
namespace Kd
theorem reps_append {α : Type} {R : α → List Value → Prop} {size : Nat} {ps qs : List α} {cs ds : List Value} (h : Reps R size ps cs) (h' : Reps R size qs ds) : Reps R size (ps ++ qs) (cs ++ ds) := by
  refine ⟨by rw [List.length_append, List.length_append, h.1, h'.1, Nat.add_mul], fun j p hj => ?_⟩
  rcases Nat.lt_or_ge j ps.length with hlt | hge
  · rw [List.getElem?_append_left hlt] at hj
    have hle : j * size + size ≤ cs.length := by rw [h.1, ← Nat.succ_mul]; exact Nat.mul_le_mul_right _ hlt
    rw [List.drop_append_of_le_length (by omega), List.take_append_of_le_length (by rw [List.length_drop]; omega)]
    exact h.2 j p hj
  · rw [List.getElem?_append_right hge] at hj
    have h2 := h'.2 (j - ps.length) p hj
    have hle : ps.length * size ≤ j * size := Nat.mul_le_mul_right _ hge
    rw [List.drop_append, List.drop_eq_nil_of_le (by rw [h.1]; exact hle), List.nil_append, h.1, ← Nat.sub_mul]
    exact h2
section
variable {P : Program} {ops : Array Oper} {rest : List Oper} {o : Oper} {a : Act} {Q : Exit → Act → World → Prop} {α : Type}
theorem R_append_rows (d : Kd α) {Rr : α → List Value → Prop} {w0 W : World} (base : Nat) (hgd : o.guard = none) (s x : Operand) (t e : TypeId) (z : Value) (bytes : Nat)
    (ho : o.op = .call { callee := .builtin .append, args := #[s, x], argTypes := #[t, t] })
    (ht : P.underlying t = some (.slice e)) (hinfo : (P.info? e).map (fun i => (i.zero, i.size, i.bytes)) = some (some z, d.sz, bytes)) (hz : z.cells.size = d.sz) (hs0 : 0 < d.sz) (hb0 : 0 < bytes)
    (v : Value) (xs ys : List α) (A : Option Addr) (m c : Nat) (ok okp : Nat → Prop) (hs : a.eval s = v) (hx : a.eval x = .slice A m c)
    (HO : d.R e W base ok v xs) (HR : ReadsRow Rr d.sz W A m ys) (hKM : ∀ x cs, Rr x cs → d.M W base okp x cs) (hokp : ∀ k, okp k → ok k ∧ some k ≠ v.ownBlock) (hfresh : ∀ k, W.heap.size ≤ k → ok k)
    (HB : Below base w0 W) (hbase : base ≤ W.heap.size) (hl : (xs.length + m) * bytes ≤ 140737488355328)
    (h : ∀ v1 w1, d.R e w1 base ok v1 (xs ++ ys) → Below base w0 w1 → W.grownBy w1 v.ownBlock → (v1.ownBlock = v.ownBlock ∨ ∃ b, v1.ownBlock = some b ∧ W.heap.size ≤ b) → wpList P ops Q rest (a.put o.dst v1) w1) :
    wpList P ops Q (o :: rest) a W := by
  obtain ⟨i0, hi, hzz⟩ := Option.map_eq_some_iff.1 hinfo
  simp only [Prod.mk.injEq] at hzz
  obtain ⟨hz0, hz1, hz2⟩ := hzz
  have hm : ys.length = m := HR.1
  have hlen : xs.length + m ≤ 140737488355328 := Nat.le_trans (Nat.le_mul_of_pos_right _ hb0) hl
  obtain ⟨hok, inner, hown, hr⟩ := HO
  have hrun : ∃ v1 w1, (Builtin.append_ #[t, t] o.type #[v, .slice A m c]).run P W = .ok v1 w1 ∧ d.R e w1 base ok v1 (xs ++ ys) ∧ W.grownBy w1 v.ownBlock ∧ (v1.ownBlock = v.ownBlock ∨ ∃ b, v1.ownBlock = some b ∧ W.heap.size ≤ b) := by
    rcases A with _ | ad
    · have h0 : m = 0 := by
        rcases Nat.eq_zero_or_pos m with h0 | h0
        · exact h0
        · obtain ⟨ad, h, _⟩ := HR.2.2 h0
          cases h
      subst h0
      obtain rfl : ys = [] := List.eq_nil_of_length_eq_zero hm
      refine ⟨v, W, ?_, by rw [List.append_nil]; exact ⟨hok, inner, hown, hr⟩, World.grownBy.refl W _, .inl rfl⟩
      rcases hown.2 with ⟨rfl, hn⟩ | ⟨g, cap, cur, rfl, _, _, hnc, _⟩
      · simp [Builtin.append_, run_underlying ht, sizeOf, typeInfo, hi, Builtin.lenOf, Builtin.firstCells]
      · simp [Builtin.append_, run_underlying ht, sizeOf, typeInfo, hi, Builtin.lenOf, Builtin.firstCells, hnc, storeCells]
    · obtain ⟨news, hnr, hnc⟩ := ReadsRow.inner_ HR
      have hnM : Reps (d.M W base okp) d.sz ys news := hnr.imp_ (fun p c hp => hKM p c hp)
      have hone : ∀ u ∈ news, u.oneCell' = true := by
        intro u hu
        obtain ⟨q, hq, rfl⟩ := List.mem_iff_getElem.1 hu
        have hql : q / d.sz < ys.length := by
          rw [Nat.div_lt_iff_lt_mul hs0]
          rw [← hnM.1]
          exact hq
        have hc := hnM.2 (q / d.sz) _ (List.getElem?_eq_getElem hql)
        refine d.K_one (d.K_of_M hc) _ ?_
        rw [List.mem_iff_getElem?]
        refine ⟨q % d.sz, ?_⟩
        rw [List.getElem?_take, if_pos (Nat.mod_lt _ hs0), List.getElem?_drop, Nat.mul_comm, Nat.div_add_mod, List.getElem?_eq_getElem hq]
      obtain ⟨v1, w1, hrun, h2, hg, _, hat⟩ := run_append_own_at (P := P) W base t o.type e i0 z d.sz bytes ht hi hz0 hz1 hz2 hz hs0 v xs.length inner hown ad m c news (by rw [hnM.1, hm]) hnc hone (by simp only [maxLen]; omega) hl hbase
      have hat' : v1.ownBlock = v.ownBlock ∨ ∃ b, v1.ownBlock = some b ∧ W.heap.size ≤ b := by
        rcases hat with hat | hat
        · exact .inl hat
        · exact .inr ⟨_, hat, Nat.le_refl _⟩
      have hne : ∀ k, some k ≠ v.ownBlock → k < W.heap.size → some k ≠ v1.ownBlock := by
        intro k hk hlt
        rcases hat' with hat | ⟨b, hb, hle⟩
        · rw [hat]; exact hk
        · rw [hb]
          intro he
          injection he with he
          omega
      have step : ∀ {q : α} {c : List Value} {o : Nat → Prop}, d.M W base o q c → (∀ k, o k → ok k ∧ some k ≠ v.ownBlock) → d.M w1 base (fun k => ok k ∧ some k ≠ v1.ownBlock) q c := by
        intro q c o hq ho
        have h1 := d.M_move (w1 := w1) (fun k hk => hg.block k hk.2.2.1 (ho k hk.1).2) (d.M_bound hq)
        exact d.M_mono (fun k hk => ⟨(ho k hk.1).1, hne k (ho k hk.1).2 hk.2.2.1⟩) h1
      refine ⟨v1, w1, hrun, ⟨fun k hk => ?_, inner ++ news, by rw [List.length_append, hm]; exact h2, reps_append (hr.imp_ (fun _ _ hq => step hq (fun _ hk => hk))) (hnM.imp_ (fun _ _ hq => step hq hokp))⟩, hg, hat'⟩
      rcases hat' with hat | ⟨b, hb, hle⟩
      · exact hok k (hat ▸ hk)
      · rw [hb] at hk
        injection hk with hk
        exact hfresh k (by omega)
  obtain ⟨v1, w1, hr1, h1, hg, hat⟩ := hrun
  refine wpList_plain hgd fun K hK => ?_
  unfold Oper.wp execOp
  simp only [ho, resolve, invoke, builtin, Sem.run_bind, Sem.run_pure, Result.andThen_ok, List.map_toArray, List.map_cons, List.map_nil, hs, hx, hr1]
  exact hK _ _ (h v1 w1 h1 (HB.grown hg hbase (own_base hown)) hg hat)
end
end Kd
namespace Kd
section
variable {P : Program} {ops : Array Oper} {rest : List Oper} {o : Oper} {a : Act} {Q : Exit → Act → World → Prop} {α : Type}
end
end Kd
theorem add_add (a : Addr) (i j : Nat) : (a.add i).add j = a.add (i + j) := by
  unfold Addr.add
  by_cases h1 : i = 0 <;> by_cases h2 : j = 0 <;> simp [h1, h2, Nat.add_assoc]
namespace Kd
section
variable {α : Type} {k : Kd α} {w : World} {A : Option Addr} {xs : List α} {m c : Nat}
theorem C_take (h : k.C w A xs.length xs) (hm : m ≤ xs.length) : k.C w A (xs.take m).length (xs.take m) := by
  have hl : (xs.take m).length = m := by rw [List.length_take]; omega
  refine ⟨rfl, by rw [hl]; have := h.2.1; omega, fun hp => ?_⟩
  obtain ⟨ad, e, hc⟩ := h.2.2 (by omega)
  refine ⟨ad, e, fun j p hj => hc j p ?_⟩
  rw [List.getElem?_take] at hj
  split at hj
  · exact hj
  · cases hj
theorem C_drop (h : k.C w A xs.length xs) (hm : m ≤ xs.length) (hc : xs.length ≤ c) : k.C w (if c = m then A else A.map (·.add (m * k.sz))) (xs.drop m).length (xs.drop m) := by
  have hl : (xs.drop m).length = xs.length - m := List.length_drop
  refine ⟨rfl, by rw [hl]; have := h.2.1; omega, fun hp => ?_⟩
  rw [hl] at hp
  obtain ⟨ad, rfl, hcell⟩ := h.2.2 (by omega)
  rw [if_neg (by omega)]
  refine ⟨ad.add (m * k.sz), rfl, fun j p hj => ?_⟩
  rw [List.getElem?_drop] at hj
  obtain ⟨cs, h1, h2, h3⟩ := hcell (m + j) p hj
  refine ⟨cs, h1, h2, fun i u hu => ?_⟩
  rw [add_add, show m * k.sz + (j * k.sz + i) = (m + j) * k.sz + i by rw [Nat.add_mul]; omega]
  exact h3 i u hu
end
end Kd
section
variable {P : Program}
end
theorem string_of_reads {P : Program} {w : World} {src dst e : TypeId} {A : Option Addr} {n c : Nat} {xs : List Int} (hs : P.underlying src = some (.slice e)) (he : P.underlying e = some (.int .u8)) (hd : P.underlying dst = some .string)
    (h : ReadsInt w .u8 A n xs) : (convert src dst (.slice A n c)).run P w = .ok (.string (strOfNums xs)) w := by
  have hn : xs.length = n := h.1
  rcases A with _ | ad
  · have h0 : n = 0 := by
      rcases Nat.eq_zero_or_pos n with h0 | h0
      · exact h0
      · obtain ⟨ad, h', _⟩ := h.2.2 h0
        cases h'
    subst h0
    obtain rfl : xs = [] := List.eq_nil_of_length_eq_zero hn
    exact run_convert_bytes_nil w src e hs he 0 c dst hd
  · have hl : (loadCells ad n).run P w = .ok (xs.map (Value.int .u8)).toArray w := by
      have := run_loadCells_list (P := P) w ad (xs.map (Value.int .u8)) (fun j v hj => by
        have hjl : j < xs.length := by
          rcases Nat.lt_or_ge j xs.length with h' | h'
          · exact h'
          · rw [List.getElem?_eq_none (by rw [List.length_map]; exact h')] at hj
            cases hj
        obtain ⟨ad', he', hc⟩ := h.2.2 (by omega)
        injection he' with he'
        subst he'
        rw [hc j (by omega)]
        rw [List.getElem?_map, List.getElem?_eq_getElem hjl] at hj
        simp at hj
        subst hj
        simp [List.getD_eq_getElem?_getD, List.getElem?_eq_getElem hjl])
      simpa [hn] using this
    rw [run_convert_bytes_string w src dst e _ n c hs he hd, run_bytesToString w ad n c xs hl, foldl_push_bytes]
    simp [strOfNums, ByteArray.empty, ByteArray.emptyWithCapacity]
    rfl
theorem Kd.C_string {P : Program} {w : World} {src dst e : TypeId} {A : Option Addr} {n c : Nat} {xs : List Int} (hs : P.underlying src = some (.slice e)) (he : P.underlying e = some (.int .u8)) (hd : P.underlying dst = some .string)
    (h : (Kd.int .u8).C w A n xs) : (convert src dst (.slice A n c)).run P w = .ok (.string (strOfNums xs)) w :=
  string_of_reads hs he hd (Kd.reads_of_C (enc := Value.int .u8) (d := (0 : Int)) (h1 := fun _ => rfl) h)
theorem below_size {w W : World} (h : Below w.heap.size w W) : w.heap.size ≤ W.heap.size := h.size
theorem ReadsInt.nil (W : World) (k : IntKind) : ReadsInt W k none ([] : List Int).length [] := ⟨rfl, by simp, fun h => absurd h (Nat.lt_irrefl 0)⟩
theorem ReadsInt.drewN {W : World} {k : IntKind} {A : Option Addr} {n : Nat} {xs : List Int} (h : ReadsInt W k A n xs) (m : Nat) : ReadsInt (W.drewN m) k A n xs := h
theorem below_set {w W : World} {g j : Nat} {v : Value} (h : Below w.heap.size w W) (hg : w.heap.size ≤ g) : Below w.heap.size w (W.setCell ⟨g, j, none⟩ v) := h.setCell hg _
theorem ReadsOf.nil {α : Type} (enc : α → Value) (d : α) (W : World) : ReadsOf enc d W none ([] : List α).length [] := ⟨rfl, by simp, fun h => absurd h (Nat.lt_irrefl 0)⟩
theorem ReadsOf.drewN {α : Type} {enc : α → Value} {d : α} {W : World} {A : Option Addr} {n : Nat} {xs : List α} (h : ReadsOf enc d W A n xs) (m : Nat) : ReadsOf enc d (W.drewN m) A n xs := h
theorem below_drew1 {base : Nat} {w W : World} (h : Below base w W) : Below base w W.drew := h.drew
namespace Kd
section
variable {α β : Type} {d : Kd α} {d' : Kd β} {e e' base base' n : Nat} {ok ok' : Nat → Prop} {w W w1 W1 : World} {v u : Value} {xs : List α} {ys : List β} {A : Option Addr} {c : Nat}
end
section
variable {α : Type} {enc : α → Value} {h1 : ∀ x, (enc x).oneCell' = true} {w W : World} {A : Option Addr} {n g : Nat} {xs : List α}
end
end Kd
namespace Kd
section
variable {α : Type} {d : Kd α} {e base g : Nat} {ok : Nat → Prop} {w w1 : World} {v : Value} {xs : List α} {o : Obj}
end
end Kd
section
variable {P : Program} {ops : Array Oper} {rest : List Oper} {o : Oper} {a : Act} {Q : Exit → Act → World → Prop}
theorem box_event {W : World} (hgd : o.guard = none) {N : Tmp} (_hd : o.dst = some N) {cs : Array Value} {t : TypeId}
    (hrun : (execOp a.eval o).run P W = .ok (.value (.pointer (some ⟨W.heap.size, 0, none⟩))) (W.alloc (.cells cs t (0, 0))))
    (h : ∀ g, g = W.heap.size → ∀ w1, w1.heap[g]? = some (.cells cs t (0, 0)) → Below W.heap.size W w1 → wpList P ops Q rest (a.put o.dst (.pointer (some ⟨g, 0, none⟩))) w1) : wpList P ops Q (o :: rest) a W :=
  Kd.event_run hgd hrun (h _ rfl _ (blk_new W _) (below_alloc (Below.refl _ _) _))
end
namespace Kd
section
variable {α : Type} {enc : α → Value} {h1 : ∀ x, (enc x).oneCell' = true} {e base g n cap : Nat} {ok : Nat → Prop} {W : World} {xs : List α}
end
end Kd
section
variable {P : Program} {ops : Array Oper} {rest : List Oper} {o : Oper} {a : Act} {Q : Exit → Act → World → Prop}
end
namespace Kd
section
variable {α : Type} {enc : α → Value} {h1 : ∀ x, (enc x).oneCell' = true} {e base g n cap : Nat} {ok : Nat → Prop} {W : World} {xs : List α}
end
end Kd
section
variable {P : Program} {ops : Array Oper} {rest : List Oper} {o : Oper} {a : Act} {Q : Exit → Act → World → Prop} {W : World}
theorem gate_dst {N : Tmp} (_hN : o.dst = some N) (h : wpList P ops Q (o :: rest) a W) : wpList P ops Q (o :: rest) a W := h
end
section
variable {P : Program} {ops : Array Oper} {o : Oper} {a : Act} {Q : Exit → Act → World → Prop} {Kc : Act → World → Prop}
namespace Kd
variable {α : Type}
end Kd
end
section
variable {P : Program} {tmps : Array Value} {w : World}
end
namespace Kd
section
variable {P : Program} {α : Type}
end
section
variable {P : Program} {ops : Array Oper} {rest : List Oper} {o : Oper} {a : Act} {Q : Exit → Act → World → Prop} {Kc : Act → World → Prop} {α : Type}
end
end Kd
end Go.Proofs.YtomgfhapmhagnaaW.PrintWords
end

section
namespace Go.Proofs.YtomgfhapmhagnaaW.PrintLast
section
variable {P : Program} {ops : Array Oper} {Q : Exit → Act → World → Prop} {md : Region.Mode} {S : World → Prop} {ds : List Nat}
def Region.reachB (md : Region.Mode) (ops : Array Oper) (i : Nat) : Nat → Nat → Bool
  | 0, _ => false
  | fuel + 1, d => match ops[d]? with
    | some o => o.after.any fun e => Region.binds md e && (e.on == i || Region.reachB md ops i fuel e.on)
    | none => false
def Region.closedB (md : Region.Mode) (ops : Array Oper) (listed : Array Bool) : Bool :=
  (List.range ops.size).all fun j => !listed.getD j false || match ops[j]? with
    | some o => o.after.all fun e => !Region.binds md e || listed.getD e.on false
    | none => true
def Region.lastB (md : Region.Mode) (ops : Array Oper) (listed : Array Bool) (ds : List Nat) (i : Nat) : Bool :=
  ds.all fun d => listed.getD d true || Region.reachB md ops i ops.size d
def ListedClosed (md : Region.Mode) (ops : Array Oper) (listed : Array Bool) : Prop :=
  ∀ j oj, ops[j]? = some oj → listed.getD j false = true → ∀ e ∈ oj.after, Region.binds md e = true → listed.getD e.on false = true
theorem Region.closedB_spec {listed : Array Bool} (h : Region.closedB md ops listed = true) : ListedClosed md ops listed := by
  intro j oj hj hl e he hb
  have hlt : j < ops.size := (Array.getElem?_eq_some_iff.1 hj).1
  have h1 := List.all_eq_true.1 h j (List.mem_range.2 hlt)
  simp only [hl, hj, Bool.not_true, Bool.false_or] at h1
  have h2 := Array.all_eq_true_iff_forall_mem.1 h1 e he
  simpa [hb] using h2
theorem ListedClosed.set {listed : Array Bool} {i : Nat} (h : ListedClosed md ops listed) (hi : i ∈ Region.ready md ops listed) : ListedClosed md ops (listed.setIfInBounds i true) := by
  obtain ⟨_, oi, hoi, hall⟩ := mem_ready.1 hi
  intro j oj hj hl e he hb
  by_cases hij : i = j
  · subst hij
    have : oj = oi := Option.some.inj (hj.symm.trans hoi)
    subst this
    exact getD_set_true (hall e he hb)
  · rw [getD_set_ne false hij] at hl
    exact getD_set_true (h j oj hj hl e he hb)
theorem Region.reach_listed {listed : Array Bool} {i : Nat} (hc : ListedClosed md ops listed) : ∀ (fuel d : Nat), Region.reachB md ops i fuel d = true → listed.getD d false = true → listed.getD i false = true
  | 0, _, h, _ => by simp [Region.reachB] at h
  | fuel + 1, d, h, hl => by
    unfold Region.reachB at h
    cases ho : ops[d]? with
    | none => rw [ho] at h; simp at h
    | some o =>
      rw [ho] at h
      obtain ⟨e, he, h1⟩ := Array.any_eq_true'.1 h
      simp only [Bool.and_eq_true, Bool.or_eq_true, beq_iff_eq] at h1
      have hle := hc d o ho hl e he h1.1
      rcases h1.2 with h2 | h2
      · rw [← h2]; exact hle
      · exact Region.reach_listed hc fuel e.on h2 hle
theorem Region.reach_not_ready {listed : Array Bool} {i d fuel : Nat} (hc : ListedClosed md ops listed) (hr : Region.reachB md ops i fuel d = true) (hun : listed.getD i true = false) : d ∉ Region.ready md ops listed := by
  intro hd
  obtain ⟨_, o, ho, hall⟩ := mem_ready.1 hd
  have hi : listed.getD i false = true := by
    cases fuel with
    | zero => simp [Region.reachB] at hr
    | succ n =>
      unfold Region.reachB at hr
      rw [ho] at hr
      obtain ⟨e, he, h1⟩ := Array.any_eq_true'.1 hr
      simp only [Bool.and_eq_true, Bool.or_eq_true, beq_iff_eq] at h1
      have hle := hall e he h1.1
      rcases h1.2 with h2 | h2
      · rw [← h2]; exact hle
      · exact Region.reach_listed hc n e.on h2 hle
  rcases Nat.lt_or_ge i listed.size with h' | h'
  · simp [h'] at hun hi
    rw [hun] at hi
    cases hi
  · simp [Array.getElem?_eq_none h'] at hun
def wpAnyLast (P : Program) (md : Region.Mode) (ops : Array Oper) (Q : Exit → Act → World → Prop) (S : World → Prop) (ds : List Nat) : Nat → Array Bool → Act → World → Prop
  | 0, listed, a, w => Region.ready md ops listed = [] ∧ Q .normal a w
  | fuel + 1, listed, a, w =>
    (Region.ready md ops listed = [] → Q .normal a w) ∧
    ∀ i ∈ Region.ready md ops listed, wpOp P ops Q i (fun a' w' => (i ∉ ds → S w → S w') ∧ wpAnyLast P md ops Q S ds fuel (listed.setIfInBounds i true) a' w') a w
theorem wpAny_of_last : ∀ (fuel : Nat) (listed : Array Bool) (a : Act) (w : World), wpAnyLast P md ops Q S ds fuel listed a w → wpAny P md ops Q fuel listed a w
  | 0, _, _, _, h => h
  | fuel + 1, _, _, _, h => ⟨h.1, fun i hi => wpOp_mono (fun a' w' h' => wpAny_of_last fuel _ a' w' h'.2) (h.2 i hi)⟩
theorem wpAnyLast_first {i : Nat} {oi : Oper} {v : Value} (hi : ops[i]? = some oi) (hsel : ∀ (j : Nat) (o : Oper) cs b, ops[j]? = some o → o.op ≠ .select cs b)
    (hQ : ∀ c a w, Q (.panic c) (a.put oi.dst v) w → Q (.panic c) a w) (n : Nat) :
    ∀ (fuel : Nat) (listed : Array Bool) (a : Act) (w : World),
      (∀ j oj, ops[j]? = some oj → j ≠ i → listed.getD j true = false → (∀ e ∈ oj.after, Region.binds md e = true → e.on ≠ i) → oi.apart ops oj = true) →
      ListedClosed md ops listed → (∀ d ∈ ds, listed.getD d true = false → Region.reachB md ops i n d = true) →
      i ∈ Region.ready md ops listed → YieldsIf P ops S oi v a → S w →
      wpAnyLast P md ops Q S ds fuel (listed.setIfInBounds i true) (a.put oi.dst v) w → wpAnyLast P md ops Q S ds (fuel + 1) listed a w := by
  intro fuel
  induction fuel with
  | zero =>
    intro listed a w _ _ _ hr hy hS H
    refine ⟨fun h => (by rw [h] at hr; cases hr), fun j hj => ?_⟩
    by_cases hji : j = i
    · subst hji; exact hy.wpOp hi hS ⟨fun _ h => h, H⟩
    · have := ready_mono hj hji
      rw [H.1] at this
      cases this
  | succ fuel ih =>
    intro listed a w hfree hc hd hr hy hS H
    refine ⟨fun h => (by rw [h] at hr; cases hr), fun j hj => ?_⟩
    by_cases hji : j = i
    · subst hji; exact hy.wpOp hi hS ⟨fun _ h => h, H⟩
    · have h1 := H.2 j (ready_mono hj hji)
      obtain ⟨hjun, oj, hoj, hall⟩ := mem_ready.1 hj
      have hiun := (mem_ready.1 hr).1
      have hnot : ∀ e ∈ oj.after, Region.binds md e = true → e.on ≠ i := fun e he hb heq => by
        have h1 := hall e he hb
        rw [heq] at h1
        rcases Nat.lt_or_ge i listed.size with h' | h'
        · simp [h'] at hiun h1; rw [hiun] at h1; cases h1
        · simp [Array.getElem?_eq_none h'] at h1
      have hjd : j ∉ ds := fun hm => Region.reach_not_ready hc (hd j hm hjun) hiun hj
      have h2 := wpOp_putIf hoj (hfree j oj hoj hji hjun hnot) (fun cs b => hsel i oi cs b hi) (fun cs b => hsel j oj cs b hoj) hQ hy h1
      have hfree' : ∀ k ok, ops[k]? = some ok → k ≠ i → (listed.setIfInBounds j true).getD k true = false →
          (∀ e ∈ ok.after, Region.binds md e = true → e.on ≠ i) → oi.apart ops ok = true := fun k ok hk hki hun hno => by
        refine hfree k ok hk hki ?_ hno
        by_cases hjk : j = k
        · subst hjk; exact hjun
        · rw [getD_set_ne true hjk] at hun; exact hun
      have hd' : ∀ d ∈ ds, (listed.setIfInBounds j true).getD d true = false → Region.reachB md ops i n d = true := fun d hm hun => by
        refine hd d hm ?_
        by_cases hjk : j = d
        · subst hjk; exact hjun
        · rw [getD_set_ne true hjk] at hun; exact hun
      refine wpOp_mono (fun a' w' h3 => ⟨h3.2.1, ih (listed.setIfInBounds j true) a' w' hfree' (hc.set hj) hd' (ready_mono hr (Ne.symm hji)) h3.1 (h3.2.1 hjd hS) ?_⟩) h2
      rw [Array.setIfInBounds_comm _ _ hji]
      exact h3.2.2
theorem wpAnyLast_any {i : Nat} {oi : Oper} {v : Value} (hi : ops[i]? = some oi) (hsel : ∀ (j : Nat) (o : Oper) cs b, ops[j]? = some o → o.op ≠ .select cs b)
    (hQ : ∀ c a w, Q (.panic c) (a.put oi.dst v) w → Q (.panic c) a w) :
    ∀ (fuel : Nat) (listed : Array Bool) (a : Act) (w : World),
      (∀ j oj, ops[j]? = some oj → j ≠ i → listed.getD j true = false → (∀ e ∈ oj.after, Region.binds md e = true → e.on ≠ i) → oi.apart ops oj = true) →
      i ∈ Region.ready md ops listed → Yields P ops oi v a →
      wpAnyLast P md ops Q S ds fuel (listed.setIfInBounds i true) (a.put oi.dst v) w → wpAnyLast P md ops Q S ds (fuel + 1) listed a w := by
  intro fuel
  induction fuel with
  | zero =>
    intro listed a w _ hr hy H
    refine ⟨fun h => (by rw [h] at hr; cases hr), fun j hj => ?_⟩
    by_cases hji : j = i
    · subst hji; exact (hy.yieldsIf (S := fun _ => True)).wpOp hi trivial ⟨fun _ h => h, H⟩
    · have := ready_mono hj hji
      rw [H.1] at this
      cases this
  | succ fuel ih =>
    intro listed a w hfree hr hy H
    refine ⟨fun h => (by rw [h] at hr; cases hr), fun j hj => ?_⟩
    by_cases hji : j = i
    · subst hji; exact (hy.yieldsIf (S := fun _ => True)).wpOp hi trivial ⟨fun _ h => h, H⟩
    · have h1 := H.2 j (ready_mono hj hji)
      obtain ⟨hjun, oj, hoj, hall⟩ := mem_ready.1 hj
      have hiun := (mem_ready.1 hr).1
      have hnot : ∀ e ∈ oj.after, Region.binds md e = true → e.on ≠ i := fun e he hb heq => by
        have h1 := hall e he hb
        rw [heq] at h1
        rcases Nat.lt_or_ge i listed.size with h' | h'
        · simp [h'] at hiun h1; rw [hiun] at h1; cases h1
        · simp [Array.getElem?_eq_none h'] at h1
      have h2 := wpOp_put hoj (hfree j oj hoj hji hjun hnot) (fun cs b => hsel i oi cs b hi) (fun cs b => hsel j oj cs b hoj) hQ hy h1
      have hfree' : ∀ k ok, ops[k]? = some ok → k ≠ i → (listed.setIfInBounds j true).getD k true = false →
          (∀ e ∈ ok.after, Region.binds md e = true → e.on ≠ i) → oi.apart ops ok = true := fun k ok hk hki hun hno => by
        refine hfree k ok hk hki ?_ hno
        by_cases hjk : j = k
        · subst hjk; exact hjun
        · rw [getD_set_ne true hjk] at hun; exact hun
      refine wpOp_mono (fun a' w' h3 => ⟨h3.2.1, ih (listed.setIfInBounds j true) a' w' hfree' (ready_mono hr (Ne.symm hji)) h3.1 ?_⟩) h2
      rw [Array.setIfInBounds_comm _ _ hji]
      exact h3.2.2
theorem wpAnyLast_take {i : Nat} {oi : Oper} {v : Value} {fuel : Nat} {listed : Array Bool} {a : Act} {w : World} (hi : ops[i]? = some oi)
    (hs : Region.noSelect ops = true) (hf : Region.free md ops listed i = true) (hr : (Region.ready md ops listed).contains i = true)
    (hc : Region.closedB md ops listed = true) (hl : Region.lastB md ops listed ds i = true)
    (hQ : ∀ c a w, Q (.panic c) (a.put oi.dst v) w → Q (.panic c) a w) (hy : YieldsIf P ops S oi v a) (hS : S w)
    (h : wpAnyLast P md ops Q S ds fuel (listed.setIfInBounds i true) (a.put oi.dst v) w) : wpAnyLast P md ops Q S ds (fuel + 1) listed a w :=
  wpAnyLast_first hi (Region.noSelect_spec hs) hQ ops.size fuel listed a w (Region.free_spec hi hf) (Region.closedB_spec hc)
    (fun d hm hun => by have := List.all_eq_true.1 hl d hm; rw [hun] at this; simpa using this) (by simpa using hr) hy hS h
theorem wpAnyLast_all {rs : List Nat} {fuel : Nat} {listed : Array Bool} {a : Act} {w : World} (hr : Region.ready md ops listed = rs) (hne : rs ≠ [])
    (h : ∀ i ∈ rs, wpOp P ops Q i (fun a' w' => (i ∉ ds → S w → S w') ∧ wpAnyLast P md ops Q S ds fuel (listed.setIfInBounds i true) a' w') a w) : wpAnyLast P md ops Q S ds (fuel + 1) listed a w :=
  ⟨fun h0 => absurd (hr ▸ h0) hne, hr ▸ h⟩
theorem wpAnyLast_done {listed : Array Bool} {a : Act} {w : World} (hr : Region.ready md ops listed = []) (h : Q .normal a w) :
    ∀ fuel, wpAnyLast P md ops Q S ds fuel listed a w
  | 0 => ⟨hr, h⟩
  | _ + 1 => ⟨fun _ => h, by rw [hr]; simp⟩
theorem wp_region_last {id : Nat} {a : Act} {w : World} (hm : P.follows .mixedOrders = true)
    (h : wpAnyLast P .any ops Q S ds ops.size (Array.replicate ops.size false) a { w with drawn := w.drawn + 1 }) : (Code.region id ops true).wp P Q a w :=
  wp_region_any hm (wpAny_of_last _ _ _ _ h)
end
section
variable {P : Program} {ops : Array Oper} {Q : Exit → Act → World → Prop} {md : Region.Mode} {S : World → Prop} {ds : List Nat}
def AllReadyL (P : Program) (md : Region.Mode) (ops : Array Oper) (Q : Exit → Act → World → Prop) (S : World → Prop) (ds : List Nat) (fuel : Nat) (listed : Array Bool) (a : Act) (w : World) (rs : List Nat) : Prop :=
  ∀ i ∈ rs, wpOp P ops Q i (fun a' w' => (i ∉ ds → S w → S w') ∧ wpAnyLast P md ops Q S ds fuel (listed.setIfInBounds i true) a' w') a w
theorem AllReadyL.nil {fuel : Nat} {listed : Array Bool} {a : Act} {w : World} : AllReadyL P md ops Q S ds fuel listed a w [] := fun _ h => by cases h
theorem AllReadyL.cons {fuel : Nat} {listed : Array Bool} {a : Act} {w : World} {i : Nat} {o : Oper} {rs : List Nat} (ho : ops[i]? = some o) (hd : i ∉ ds)
    (h : ∀ K' : Act → World → Prop, Shut (∀ a w, S w → (S w → wpAnyLast P md ops Q S ds fuel (listed.setIfInBounds i true) a w) → K' a w) → if Region.wanted o (yielded ops a.tmps) = true then Oper.wp P o a w K' Q else K' (a.put o.dst undef) w)
    (hs : AllReadyL P md ops Q S ds fuel listed a w rs) : AllReadyL P md ops Q S ds fuel listed a w (i :: rs) := fun j hj => by
  rcases List.mem_cons.1 hj with rfl | hj
  · exact wpOp_step ho (fun K' hK => h K' (fun a w hS hW => hK a w ⟨fun _ _ => hS, hW hS⟩))
  · exact hs j hj
theorem wpAnyLast_ready {rs : List Nat} {fuel : Nat} {listed : Array Bool} {a : Act} {w : World} (hr : Region.ready md ops listed = rs) (hne : rs ≠ [])
    (h : AllReadyL P md ops Q S ds fuel listed a w rs) : wpAnyLast P md ops Q S ds (fuel + 1) listed a w := wpAnyLast_all hr hne h
theorem start_ {id n : Nat} {a : Act} {w : World} (l : Array Bool) (hm : P.follows .mixedOrders = true) (hn : ops.size = n) (hl : Array.replicate n false = l) (hS : S w.drew)
    (h : S w.drew → wpAnyLast P .any ops Q S ds n l a w.drew) : (Code.region id ops true).wp P Q a w := by
  subst hn
  subst hl
  exact wp_region_last hm (h hS)
def takeB (md : Region.Mode) (ops : Array Oper) (ds : List Nat) (l l' : Array Bool) (i : Nat) : Bool :=
  Region.noSelect ops && Region.free md ops l i && (Region.ready md ops l).contains i && Region.closedB md ops l && Region.lastB md ops l ds i && (l.setIfInBounds i true == l')
theorem take_ {i : Nat} {N : Option Tmp} {oi : Oper} {v : Value} {fuel : Nat} {l : Array Bool} {a : Act} {w : World} (l' : Array Bool) (hi : ops[i]? = some oi) (hN : oi.dst = N) (hc : takeB md ops ds l l' i = true)
    (hQ : ∀ c a w, Q (.panic c) (a.put oi.dst v) w → Q (.panic c) a w) (hy : YieldsIf P ops S oi v a) (hS : S w) {a' : Act} (ha : a.put N v = a')
    (h : wpAnyLast P md ops Q S ds fuel l' a' w) : wpAnyLast P md ops Q S ds (fuel + 1) l a w := by
  subst ha
  subst hN
  simp only [takeB, Bool.and_eq_true, beq_iff_eq] at hc
  obtain ⟨⟨⟨⟨⟨h1, h2⟩, h3⟩, h4⟩, h5⟩, h6⟩ := hc
  subst h6
  exact wpAnyLast_take hi h1 h2 h3 h4 h5 hQ hy hS h
def anyB (md : Region.Mode) (ops : Array Oper) (l l' : Array Bool) (i : Nat) : Bool :=
  Region.noSelect ops && Region.free md ops l i && (Region.ready md ops l).contains i && (l.setIfInBounds i true == l')
theorem pure_ {i : Nat} {N : Option Tmp} {oi : Oper} {v : Value} {fuel : Nat} {l : Array Bool} {a : Act} {w : World} (l' : Array Bool) (hi : ops[i]? = some oi) (hN : oi.dst = N) (hc : anyB md ops l l' i = true)
    (hQ : ∀ c a w, Q (.panic c) (a.put oi.dst v) w → Q (.panic c) a w) (hy : Yields P ops oi v a) {a' : Act} (ha : a.put N v = a')
    (h : wpAnyLast P md ops Q S ds fuel l' a' w) : wpAnyLast P md ops Q S ds (fuel + 1) l a w := by
  subst ha
  subst hN
  simp only [anyB, Bool.and_eq_true, beq_iff_eq] at hc
  obtain ⟨⟨⟨h1, h2⟩, h3⟩, h6⟩ := hc
  subst h6
  exact wpAnyLast_any hi (Region.noSelect_spec h1) hQ fuel l a w (Region.free_spec hi h2) (by simpa using h3) hy h
def readyB (md : Region.Mode) (ops : Array Oper) (l l' : Array Bool) (i : Nat) : Bool := (Region.ready md ops l == [i]) && (l.setIfInBounds i true == l')
theorem one_ {i : Nat} {N : Option Tmp} {oi : Oper} {fuel : Nat} {l : Array Bool} {a : Act} {w : World} (l' : Array Bool) (hi : ops[i]? = some oi) (hN : oi.dst = N) (hc : readyB md ops l l' i = true) (hd : i ∉ ds)
    (h : ∀ K : Act → World → Prop, Shut (∀ a' w', S w' → (S w' → wpAnyLast P md ops Q S ds fuel l' a' w') → K a' w') → if Region.wanted oi (yielded ops a.tmps) = true then Oper.wp P oi a w K Q else K (a.put N undef) w) :
    wpAnyLast P md ops Q S ds (fuel + 1) l a w := by
  subst hN
  simp only [readyB, Bool.and_eq_true, beq_iff_eq] at hc
  obtain ⟨h1, h2⟩ := hc
  subst h2
  exact wpAnyLast_ready h1 (by simp) (AllReadyL.cons hi hd (fun K hK => h K hK) AllReadyL.nil)
theorem done_ {l : Array Bool} {a : Act} {w : World} {n : Nat} (hr : (Region.ready md ops l == []) = true) (h : Q .normal a w) : wpAnyLast P md ops Q S ds n l a w := wpAnyLast_done (by simpa using hr) h n
theorem norm_ {fuel : Nat} {l : Array Bool} {a a' : Act} {w : World} (ha : a = a') (h : wpAnyLast P md ops Q S ds fuel l a' w) : wpAnyLast P md ops Q S ds fuel l a w := by
  subst ha
  exact h
theorem call_ {oi : Oper} {N : Option Tmp} {a : Act} {w : World} {K : Act → World → Prop} (f : FuncId) (args : Array Value) (hw : Region.wanted oi (yielded ops a.tmps) = true) (hN : oi.dst = N) (hrun : (execOp a.eval oi).run P w = .ok (.enter f args) w)
    (h : Calls P f args w fun e w' => ∃ v, e = .returned v ∧ K (a.put N v) w') : if Region.wanted oi (yielded ops a.tmps) = true then Oper.wp P oi a w K Q else K (a.put N undef) w := by
  rw [if_pos hw]
  subst hN
  unfold Oper.wp
  rw [hrun, Oper.upon_enter]
  refine h.mono fun e w'' hh => ?_
  obtain ⟨v, rfl, hk⟩ := hh
  exact hk
theorem enters_ {f : FuncId} {fn : Func} (hf : P.funcs[f]? = some fn) (hname : (fn.name == "runtime.NumGoroutine") = false) (hb : fn.body.isSome = true) (args : Array Value) (w : World) : (callFunc f args).run P w = .ok (.enter f args) w := by
  have h1 : fn.name ≠ "runtime.NumGoroutine" := by simpa using hname
  obtain ⟨c, hc⟩ := Option.isSome_iff_exists.1 hb
  simp [callFunc, hf, h1, hc]
theorem goes_ {oi : Oper} {N : Option Tmp} {a : Act} {w : World} {K : Act → World → Prop} {f : FuncId} {fn : Func} {as0 : Array Operand} {ts : Array TypeId} (hf : P.funcs[f]? = some fn) (hname : (fn.name == "runtime.NumGoroutine") = false) (hb : fn.body.isSome = true) (args : Array Value)
    (hw : Region.wanted oi (yielded ops a.tmps) = true) (hN : oi.dst = N) (hop : oi.op = .call { callee := .value (.func f), args := as0, argTypes := ts }) (hargs : as0.map a.eval = args)
    (h : Calls P f args w fun e w' => ∃ v, e = .returned v ∧ K (a.put N v) w') : if Region.wanted oi (yielded ops a.tmps) = true then Oper.wp P oi a w K Q else K (a.put N undef) w := by
  refine call_ f args hw hN ?_ h
  have he := enters_ hf hname hb args w
  unfold execOp
  simp [hop, resolve, Deferred.ofValue, invoke, Act.eval, hargs, he]
theorem i64_w (n : Int) : IntKind.i64.wrap n = Go.RowKit.wrap64 n := by unfold Go.RowKit.wrap64; exact IntKind.wrap_i64 n
theorem i32_w (n : Int) : IntKind.i32.wrap n = Go.RowKit.wrap32 n := by unfold Go.RowKit.wrap32; exact IntKind.wrap_i32 n
end
end Go.Proofs.YtomgfhapmhagnaaW.PrintLast
end

section
namespace Go.Proofs.YtomgfhapmhagnaaW.PrintWords
open Go.RowKit
namespace Kd
def tag {α : Type} (f : Nat → Nat) (d : Kd α) : Kd (α × Nat) where
  sz := d.sz
  E := d.E
  K := fun w x cs => d.K w x.1 cs
  M := fun w base ok x cs => d.M w base (fun k => ok k ∧ f k = x.2) x.1 cs
  K_len := fun h => d.K_len h
  K_one := fun h => d.K_one h
  K_below := fun hb h => d.K_below hb h
  K_of_M := fun h => d.K_of_M h
  M_mono := fun hok h => d.M_mono (fun k hk => ⟨hok k hk.1, hk.2⟩) h
  M_bound := fun h => d.M_mono (fun _ hk => ⟨⟨hk.1.1, hk.2⟩, hk.1.2⟩) (d.M_bound h)
  M_move := fun hm h => d.M_move (fun k hk => hm k hk.1) h
  M_lower := fun hb h => d.M_lower hb h
def raw (sz : Nat) : Kd (List Value) where
  sz := sz
  E := []
  K := fun _ x cs => cs = x ∧ cs.length = sz ∧ ∀ u ∈ cs, u.oneCell' = true
  M := fun _ _ _ x cs => cs = x ∧ cs.length = sz ∧ ∀ u ∈ cs, u.oneCell' = true
  K_len := fun h => h.2.1
  K_one := fun h => h.2.2
  K_below := fun _ h => h
  K_of_M := fun h => h
  M_mono := fun _ h => h
  M_bound := fun h => h
  M_move := fun _ h => h
  M_lower := fun _ h => h
def S {α : Type} (d : Kd α) (e : Nat) (w : World) (base : Nat) (ok : Nat → Prop) (v : Value) (xs : List α) : Prop := ∃ f, (tag f d).R e w base ok v xs.zipIdx
section
variable {α β : Type} {d : Kd α} {d' : Kd β} {e e' : Nat} {w w1 W : World} {base b : Nat} {ok ok' okv oku : Nat → Prop} {u v : Value} {xs : List α} {ys : List β}
theorem zip_at {xs : List α} {j : Nat} {p : α} (h : xs[j]? = some p) : xs.zipIdx[j]? = some (p, j) := by rw [List.getElem?_zipIdx, h, Nat.zero_add]; rfl
theorem S_nil (d : Kd α) (e : Nat) (w : World) (base : Nat) (ok : Nat → Prop) : S d e w base ok (.slice none 0 0) [] := ⟨fun _ => 0, R_nil _ _ _ _ _⟩
theorem R_tag {f f' : Nat → Nat} {zs : List (α × Nat)} (h : (tag f d).R e w base ok v zs) (hf : ∀ k, ok k → k < w.heap.size → f' k = f k) : (tag f' d).R e w base ok v zs := by
  obtain ⟨h0, inner, ho, hr⟩ := R_bound h
  exact ⟨fun k hk => (h0 k hk).1, inner, ho, hr.1, fun j p hj => d.M_mono (fun k hk => ⟨⟨hk.1.1.1, hk.1.2⟩, (hf k hk.1.1.1 hk.1.1.2.2.1).trans hk.2⟩) (hr.2 j p hj)⟩
end
section
variable {α β : Type} {d : Kd α} {d' : Kd β} {e e' g : Nat} {w w1 W : World} {base b : Nat} {ok ok' okv oku : Nat → Prop} {u v : Value} {xs : List α} {ys : List β}
end
section
open Classical in
theorem S_tag {α : Type} {d : Kd α} {e base : Nat} {okv : Nat → Prop} {w : World} {v : Value} {xs : List α} (h : S d e w base okv v xs) (m : Nat) (okp : Nat → Prop) (hap : ∀ k, okp k → ¬ okv k) : ∃ f, (∀ k, okp k → f k = m) ∧ (tag f d).R e w base okv v xs.zipIdx := by
  obtain ⟨f, h⟩ := h
  exact ⟨fun k => if okp k then m else f k, fun k hk => if_pos hk, R_tag h (fun k hk _ => if_neg (fun h2 => hap k h2 hk))⟩
variable {P : Program} {ops : Array Oper} {rest : List Oper} {o : Oper} {a : Act} {Q : Exit → Act → World → Prop} {Kc : Act → World → Prop} {α : Type}
end
def gap {α : Type} (f : Nat → Nat) (d : Kd α) (i : Nat) (c : List Value) : Kd (α × Nat) where
  sz := d.sz
  E := d.E
  K := fun w x cs => (x.2 = i → cs = c ∧ cs.length = d.sz ∧ ∀ u ∈ cs, u.oneCell' = true) ∧ (x.2 ≠ i → d.K w x.1 cs)
  M := fun w base ok x cs => (x.2 = i → cs = c ∧ cs.length = d.sz ∧ ∀ u ∈ cs, u.oneCell' = true) ∧ (x.2 ≠ i → d.M w base (fun k => ok k ∧ f k = x.2) x.1 cs)
  K_len := fun {w x cs} h => by
    by_cases hx : x.2 = i
    · exact (h.1 hx).2.1
    · exact d.K_len (h.2 hx)
  K_one := fun {w x cs} h => by
    by_cases hx : x.2 = i
    · exact (h.1 hx).2.2
    · exact d.K_one (h.2 hx)
  K_below := fun hb h => ⟨h.1, fun hx => d.K_below hb (h.2 hx)⟩
  K_of_M := fun h => ⟨h.1, fun hx => d.K_of_M (h.2 hx)⟩
  M_mono := fun hok h => ⟨h.1, fun hx => d.M_mono (fun k hk => ⟨hok k hk.1, hk.2⟩) (h.2 hx)⟩
  M_bound := fun h => ⟨h.1, fun hx => d.M_mono (fun _ hk => ⟨⟨hk.1.1, hk.2⟩, hk.1.2⟩) (d.M_bound (h.2 hx))⟩
  M_move := fun hm h => ⟨h.1, fun hx => d.M_move (fun k hk => hm k hk.1) (h.2 hx)⟩
  M_lower := fun hb h => ⟨h.1, fun hx => d.M_lower hb (h.2 hx)⟩
def H {α : Type} (d : Kd α) (e : Nat) (w : World) (base : Nat) (ok : Nat → Prop) (v : Value) (xs : List α) (i : Int) (oki : Nat → Prop) (c : List Value) : Prop :=
  (∀ k, oki k → ok k) ∧ ∃ f, (gap f d i.toNat c).R e w base (fun k => ok k ∧ ¬ oki k) v xs.zipIdx
section
variable {α β : Type} {d : Kd α} {e e' g n cap : Nat} {w w1 W : World} {base : Nat} {ok ok' oki okp : Nat → Prop} {u v : Value} {xs : List α} {i : Int} {c : List Value}
open Classical in
theorem H_back (h : H d e w base ok v xs i oki c) {x' : α} (hM : d.M w base okp x' c) (hok : ∀ k, okp k → oki k) : S d e w base ok v (xs.set i.toNat x') := by
  obtain ⟨ho, f, h0, inner, hown, hr⟩ := h
  refine ⟨fun k => if oki k then i.toNat else f k, fun k hk => (h0 k hk).1, inner, by rw [List.length_zipIdx, List.length_set]; rw [List.length_zipIdx] at hown; exact hown, by have := hr.1; rw [List.length_zipIdx] at this; rw [List.length_zipIdx, List.length_set]; exact this, fun m p hm => ?_⟩
  rw [List.getElem?_zipIdx, Nat.zero_add] at hm
  obtain ⟨q, hq, rfl⟩ := Option.map_eq_some_iff.1 hm
  have hml : m < xs.length := by
    have := (List.getElem?_eq_some_iff.1 hq).1
    rwa [List.length_set] at this
  by_cases hmi : m = i.toNat
  · subst hmi
    rw [List.getElem?_set_self hml] at hq
    injection hq with hq
    subst hq
    have hc := ((hr.2 i.toNat _ (zip_at (List.getElem?_eq_getElem hml))).1 rfl).1
    show d.M w base _ x' ((inner.drop (i.toNat * d.sz)).take d.sz)
    rw [show (inner.drop (i.toNat * d.sz)).take d.sz = c from hc]
    exact d.M_mono (fun k hk => ⟨⟨ho k (hok k hk), fun he => (h0 k he.symm).2 (hok k hk)⟩, if_pos (hok k hk)⟩) hM
  · rw [List.getElem?_set_ne (Ne.symm hmi)] at hq
    exact d.M_mono (fun k hk => ⟨⟨hk.1.1.1, hk.1.2⟩, (if_neg hk.1.1.2).trans hk.2⟩) ((hr.2 m (q, m) (zip_at hq)).2 hmi)
end
section
variable {P : Program} {ops : Array Oper} {rest : List Oper} {o : Oper} {a : Act} {Q : Exit → Act → World → Prop} {α : Type}
end
end Kd
end Go.Proofs.YtomgfhapmhagnaaW.PrintWords
end

section
namespace Go.Proofs.YtomgfhapmhagnaaW.PrintWords
open Go.RowKit
namespace Kd
structure Heap {α : Type} (d : Kd α) : Prop where
  K : ∀ {w w1 : World} {x : α} {cs : List Value}, (∀ k, k < w.heap.size → w1.heap[k]? = w.heap[k]?) → d.K w x cs → d.K w1 x cs
theorem cell_heap {w w1 : World} (hb : ∀ k, k < w.heap.size → w1.heap[k]? = w.heap[k]?) {a : Addr} {v : Value} (h : w.cell? a = some v) : w1.cell? a = some v := by
  have := hb a.block (World.block_lt_of_cell? w a h)
  simpa [World.cell?, this] using h
theorem Heap.C {α : Type} {d : Kd α} (hd : Heap d) {w w1 : World} {A : Option Addr} {n : Nat} {xs : List α} (hb : ∀ k, k < w.heap.size → w1.heap[k]? = w.heap[k]?) (h : d.C w A n xs) : d.C w1 A n xs :=
  ⟨h.1, h.2.1, fun hn => by
    obtain ⟨ad, e, hc⟩ := h.2.2 hn
    refine ⟨ad, e, fun j p hj => ?_⟩
    obtain ⟨c, hs, hr, hcell⟩ := hc j p hj
    exact ⟨c, hs, hd.K hb hr, fun i u hu => cell_heap hb (hcell i u hu)⟩⟩
section
variable {α : Type} {d : Kd α} {e base g n c : Nat} {ok : Nat → Prop} {w w0 W : World} {A : Option Addr} {xs : List α}
end
end Kd
end Go.Proofs.YtomgfhapmhagnaaW.PrintWords
end

section
namespace Go.Proofs.YtomgfhapmhagnaaW.PrintWords
open Go.RowKit
def Kept (w W : World) (S : Nat → Prop) : Prop := w.heap.size ≤ W.heap.size ∧ ∀ i, i < w.heap.size → ¬ S i → W.heap[i]? = w.heap[i]?
section
variable {w W W2 : World} {S S2 S' : Nat → Prop}
theorem Kept.refl (w : World) (S : Nat → Prop) : Kept w w S := ⟨Nat.le_refl _, fun _ _ _ => rfl⟩
theorem Kept.of_below (h : Below w.heap.size w W) (S : Nat → Prop) : Kept w W S := ⟨h.size, fun i hi _ => h.block i hi⟩
theorem Kept.mono (h : Kept w W S) (hs : ∀ k, S k → S' k) : Kept w W S' := ⟨h.1, fun i hi hn => h.2 i hi (fun hk => hn (hs i hk))⟩
theorem Kept.then_ (h : Kept w W S) (k : Kept W W2 S2) (hs : ∀ k, S2 k → S k ∨ w.heap.size ≤ k) : Kept w W2 S :=
  ⟨Nat.le_trans h.1 k.1, fun i hi hn => (k.2 i (Nat.lt_of_lt_of_le hi h.1) (fun h2 => (hs i h2).elim hn (fun h3 => by omega))).trans (h.2 i hi hn)⟩
theorem Kept.below (h : Kept w W S) (hb : Below W.heap.size W W2) : Kept w W2 S := h.then_ (Kept.of_below hb (fun _ => False)) (fun _ hk => hk.elim)
theorem Kept.alloc (h : Kept w W S) (o : Obj) : Kept w (W.alloc o) S := h.below (below_alloc (Below.refl _ _) o)
theorem Kept.drew (h : Kept w W S) : Kept w W.drew S := h
theorem Kept.drewN (h : Kept w W S) (m : Nat) : Kept w (W.drewN m) S := h
theorem Kept.setCell (h : Kept w W S) {p : Addr} (hp : S p.block ∨ w.heap.size ≤ p.block) (u : Value) : Kept w (W.setCell p u) S :=
  h.then_ (S2 := fun k => k = p.block) ⟨by simp [World.setCell], fun i _ hn => Below.heap_setCell W p u i hn⟩ (fun k hk => by rw [hk]; exact hp)
end
namespace Kd
section
variable {α : Type} {d : Kd α} {e base n c : Nat} {ok oki S S2 : Nat → Prop} {w w0 W W1 W2 : World} {v : Value} {A : Option Addr} {xs : List α} {i : Int} {cs : List Value}
end
end Kd
end Go.Proofs.YtomgfhapmhagnaaW.PrintWords
end

section
namespace Go.Proofs.YtomgfhapmhagnaaW.PrintWords
open Go.RowKit
def Foot (P : World → Prop) (W : World) (ok : Nat → Prop) : Prop := ∀ W' : World, (∀ k, ok k → k < W.heap.size → W'.heap[k]? = W.heap[k]?) → P W'
theorem heap_lt {W W1 : World} {k : Nat} (h : W1.heap[k]? = W.heap[k]?) (hlt : k < W.heap.size) : k < W1.heap.size := by
  rw [Array.getElem?_eq_getElem hlt] at h
  exact (Array.getElem?_eq_some_iff.1 h).1
namespace Foot
variable {P Q : World → Prop} {W W1 : World} {ok ok' : Nat → Prop}
theorem mono (h : Foot P W ok) (hok : ∀ k, ok k → ok' k) : Foot P W ok' := fun W' hW => h W' (fun k hk hlt => hW k (hok k hk) hlt)
theorem step (h : Foot P W ok) (hm : ∀ k, ok k → k < W.heap.size → W1.heap[k]? = W.heap[k]?) : Foot P W1 ok := fun W' hW => h W' (fun k hk hlt => (hW k hk (heap_lt (hm k hk hlt) hlt)).trans (hm k hk hlt))
end Foot
namespace Kd
def F {α : Type} (d : Kd α) (W : World) (ok : Nat → Prop) (A : Option Addr) (n : Nat) (xs : List α) : Prop := Foot (fun W => d.C W A n xs) W ok
def FK {α : Type} (d : Kd α) (W : World) (ok : Nat → Prop) (x : α) (c : List Value) : Prop := Foot (fun W => d.K W x c) W ok
section
variable {α β : Type} {d : Kd α} {e base n n' cc g N : Nat} {ok ok' okp S : Nat → Prop} {w w0 w1 W W1 : World} {A A' : Option Addr} {u v v1 : Value} {xs : List α} {xs' : List β} {d' : Kd β} {x : α} {c : List Value}
theorem F_nil (d : Kd α) (W : World) (ok : Nat → Prop) : F d W ok none ([] : List α).length [] := fun W' _ => C_nil d W'
theorem FK_of_M (h : d.M W base ok x c) : FK d W ok x c := fun _ hW => d.K_of_M (M_step h hW)
end
end Kd
end Go.Proofs.YtomgfhapmhagnaaW.PrintWords
end

section
namespace Go.Proofs.YtomgfhapmhagnaaW.PrintWords
open Go.RowKit
namespace Kd
def chunks (sz : Nat) (n : Nat) (inner : List Value) : List (List Value) := (List.range n).map fun j => (inner.drop (j * sz)).take sz
theorem chunks_length (sz n : Nat) (inner : List Value) : (chunks sz n inner).length = n := by simp [chunks]
theorem chunks_at {sz n : Nat} {inner : List Value} {j : Nat} (hj : j < n) : (chunks sz n inner)[j]? = some ((inner.drop (j * sz)).take sz) := by simp [chunks, hj]
theorem chunks_get {sz n : Nat} {inner : List Value} {j : Nat} {c : List Value} (h : (chunks sz n inner)[j]? = some c) : c = (inner.drop (j * sz)).take sz := by
  have hj : j < n := by have := (List.getElem?_eq_some_iff.1 h).1; rwa [chunks_length] at this
  rw [chunks_at hj] at h
  injection h with h
  exact h.symm
theorem reps_raw {α : Type} {Rr : α → List Value → Prop} {sz : Nat} {xs : List α} {inner : List Value} (h : Reps Rr sz xs inner) (hR : ∀ x c, Rr x c → c.length = sz ∧ ∀ u ∈ c, u.oneCell' = true) : Reps (fun x cs => cs = x ∧ cs.length = sz ∧ ∀ u ∈ cs, u.oneCell' = true) sz (chunks sz xs.length inner) inner := by
  refine ⟨by rw [chunks_length]; exact h.1, fun j p hj => ?_⟩
  have hjl : j < xs.length := by have := (List.getElem?_eq_some_iff.1 hj).1; rwa [chunks_length] at this
  have hp := chunks_get hj
  exact ⟨hp.symm, hR _ _ (h.2 j _ (List.getElem?_eq_getElem hjl))⟩
section
variable {α : Type} {d : Kd α} {e base n cc g : Nat} {ok ok' okp S : Nat → Prop} {w w1 W W1 : World} {A : Option Addr} {u v v1 : Value} {xs : List α} {x : α} {c : List Value}
def N {α : Type} (d : Kd α) (e : Nat) (w : World) (base : Nat) (ok : Nat → Prop) (v : Value) (xs : List α) : Prop :=
  (∀ k, v.ownBlock = some k → ok k) ∧ ∃ rows : List (List Value), rows.length = xs.length ∧ (raw d.sz).R e w base (fun k => some k = v.ownBlock) v rows ∧ ∀ (j : Nat) (x : α) (c : List Value), xs[j]? = some x → rows[j]? = some c → FK d w (fun k => ok k ∧ some k ≠ v.ownBlock) x c
theorem R_N (h : d.R e w base ok v xs) : N d e w base ok v xs := by
  obtain ⟨h0, inner, ho, hr⟩ := h
  refine ⟨h0, chunks d.sz xs.length inner, chunks_length _ _ _, ⟨fun k hk => hk.symm, inner, by rw [chunks_length]; exact ho, reps_raw hr (fun x c hp => ⟨d.K_len (d.K_of_M hp), d.K_one (d.K_of_M hp)⟩)⟩, fun j x c hx hc => ?_⟩
  rw [chunks_get hc]
  exact FK_of_M (hr.2 j x hx)
theorem N_nil (d : Kd α) (e : Nat) (w : World) (base : Nat) (ok : Nat → Prop) : N d e w base ok (.slice none 0 0) [] := R_N (R_nil _ _ _ _ _)
end
end Kd
end Go.Proofs.YtomgfhapmhagnaaW.PrintWords
end

section
namespace Go.Proofs.YtomgfhapmhagnaaW.PrintMore
open Go.RowKit Go.Proofs.YtomgfhapmhagnaaW.PrintWords
namespace Kd
open Go.Proofs.YtomgfhapmhagnaaW.PrintWords.Kd
end Kd
namespace Kd
open Go.Proofs.YtomgfhapmhagnaaW.PrintWords.Kd
section
variable {α : Type} {d : Kd α} {e base g N : Nat} {ok : Nat → Prop} {W w1 : World} {u v : Value} {xs : List α}
end
end Kd
theorem max2_int (k k' : IntKind) (x y : Int) : Builtin.max2 (.int k x) (.int k' y) = pure (.int k (if x < y then y else x)) := by simp only [Builtin.max2, gt_iff_lt]
theorem min2_int (k k' : IntKind) (x y : Int) : Builtin.min2 (.int k x) (.int k' y) = pure (.int k (if y < x then y else x)) := by simp only [Builtin.min2]
theorem max_two (ats : Array TypeId) (ty : TypeId) (a b : Value) : Builtin.max_ ats ty #[a, b] = (Builtin.max2 a b >>= fun s => pure s) := by simp only [Builtin.max_, List.foldlM_cons, List.foldlM_nil]
theorem min_two (ats : Array TypeId) (ty : TypeId) (a b : Value) : Builtin.min_ ats ty #[a, b] = (Builtin.min2 a b >>= fun s => pure s) := by simp only [Builtin.min_, List.foldlM_cons, List.foldlM_nil]
theorem max_three (ats : Array TypeId) (ty : TypeId) (a b c : Value) : Builtin.max_ ats ty #[a, b, c] = (Builtin.max2 a b >>= fun s => Builtin.max2 s c >>= fun s => pure s) := by simp only [Builtin.max_, List.foldlM_cons, List.foldlM_nil]
theorem min_three (ats : Array TypeId) (ty : TypeId) (a b c : Value) : Builtin.min_ ats ty #[a, b, c] = (Builtin.min2 a b >>= fun s => Builtin.min2 s c >>= fun s => pure s) := by simp only [Builtin.min_, List.foldlM_cons, List.foldlM_nil]
theorem max_four (ats : Array TypeId) (ty : TypeId) (a b c d : Value) : Builtin.max_ ats ty #[a, b, c, d] = (Builtin.max2 a b >>= fun s => Builtin.max2 s c >>= fun s => Builtin.max2 s d >>= fun s => pure s) := by simp only [Builtin.max_, List.foldlM_cons, List.foldlM_nil]
theorem min_four (ats : Array TypeId) (ty : TypeId) (a b c d : Value) : Builtin.min_ ats ty #[a, b, c, d] = (Builtin.min2 a b >>= fun s => Builtin.min2 s c >>= fun s => Builtin.min2 s d >>= fun s => pure s) := by simp only [Builtin.min_, List.foldlM_cons, List.foldlM_nil]
end Go.Proofs.YtomgfhapmhagnaaW.PrintMore
namespace Go.Proofs.YtomgfhapmhagnaaW.PrintWords
open Go.RowKit
section
variable {P : Program} {ops : Array Oper} {rest : List Oper} {o : Oper} {a : Act} {Q : Exit → Act → World → Prop} {W : World}
theorem gate_builtin {b : Builtin} {xs : Array Operand} {ts : Array TypeId} (_ho : o.op = .call { callee := .builtin b, args := xs, argTypes := ts }) (h : wpList P ops Q (o :: rest) a W) : wpList P ops Q (o :: rest) a W := h
end
namespace Kd
section
variable {α : Type} {d : Kd α} {e base : Nat} {ok : Nat → Prop} {W w1 : World} {v : Value} {xs : List α}
end
section
variable {α : Type} {d : Kd α} {e base g n cap : Nat} {ok oki okp : Nat → Prop} {W : World} {xs : List α} {i : Int} {c : List Value}
end
section
variable {α : Type} {d : Kd α} {e base b b' g N : Nat} {ok ok1 : Nat → Prop} {W W2 w1 : World} {u v : Value} {xs ys : List α} {S : Nat → Prop}
end
end Kd
end Go.Proofs.YtomgfhapmhagnaaW.PrintWords
namespace Go.Proofs.YtomgfhapmhagnaaW.PrintWords
open Go.RowKit
namespace Kd
def V {α : Type} (d : Kd α) (_e : Nat) (W : World) (_base : Nat) (ok : Nat → Prop) (v : Value) (xs : List α) : Prop := ∃ A c, v = .slice A xs.length c ∧ xs.length ≤ c ∧ F d W ok A xs.length xs
section
variable {α β : Type} {d : Kd α} {e base base' n m c g N' lo hi : Nat} {ok ok' S : Nat → Prop} {w W w1 : World} {A : Option Addr} {ad : Addr} {u v v1 : Value} {xs : List α}
theorem V_nil (d : Kd α) (e : Nat) (W : World) (base : Nat) (ok : Nat → Prop) : V d e W base ok (.slice none 0 0) [] := ⟨none, 0, rfl, Nat.le_refl _, F_nil d W ok⟩
end
end Kd
end Go.Proofs.YtomgfhapmhagnaaW.PrintWords
end

section
namespace Go.Proofs.YtomgfhapmhagnaaW.PrintWords
theorem Reps.front {α : Type} {R : α → List Value → Prop} {size : Nat} {ps : List α} {cs c all : List Value} {p : α} (hp : R p c) (hc : c.length = size) (h : Reps R size ps cs) (ha : c ++ cs = all) : Reps R size (p :: ps) all := by
  subst ha
  refine ⟨by rw [List.length_append, hc, h.1, List.length_cons, Nat.succ_mul, Nat.add_comm], fun j q hq => ?_⟩
  cases j with
  | zero =>
    simp only [List.getElem?_cons_zero, Option.some.injEq] at hq
    subst hq
    rw [Nat.zero_mul, List.drop_zero, List.take_append_of_le_length (by omega), List.take_of_length_le (by omega)]
    exact hp
  | succ j =>
    simp only [List.getElem?_cons_succ] at hq
    have h1 := h.2 j q hq
    rw [Nat.succ_mul, List.drop_append, List.drop_of_length_le (by rw [hc]; exact Nat.le_add_left _ _), List.nil_append, hc, Nat.add_sub_cancel]
    exact h1
theorem Reps.c2 {α : Type} {R : α → List Value → Prop} {ps : List α} {cs : List Value} {p : α} {va vb : Value} (hp : R p [va, vb]) (h : Reps R 2 ps cs) : Reps R 2 (p :: ps) (va :: vb :: cs) := Reps.front hp rfl h rfl
theorem Reps.c3 {α : Type} {R : α → List Value → Prop} {ps : List α} {cs : List Value} {p : α} {va vb vc : Value} (hp : R p [va, vb, vc]) (h : Reps R 3 ps cs) : Reps R 3 (p :: ps) (va :: vb :: vc :: cs) := Reps.front hp rfl h rfl
theorem Reps.c4 {α : Type} {R : α → List Value → Prop} {ps : List α} {cs : List Value} {p : α} {va vb vc vd : Value} (hp : R p [va, vb, vc, vd]) (h : Reps R 4 ps cs) : Reps R 4 (p :: ps) (va :: vb :: vc :: vd :: cs) := Reps.front hp rfl h rfl
theorem Reps.c5 {α : Type} {R : α → List Value → Prop} {ps : List α} {cs : List Value} {p : α} {va vb vc vd ve : Value} (hp : R p [va, vb, vc, vd, ve]) (h : Reps R 5 ps cs) : Reps R 5 (p :: ps) (va :: vb :: vc :: vd :: ve :: cs) := Reps.front hp rfl h rfl
theorem Reps.c6 {α : Type} {R : α → List Value → Prop} {ps : List α} {cs : List Value} {p : α} {va vb vc vd ve vf : Value} (hp : R p [va, vb, vc, vd, ve, vf]) (h : Reps R 6 ps cs) : Reps R 6 (p :: ps) (va :: vb :: vc :: vd :: ve :: vf :: cs) := Reps.front hp rfl h rfl
theorem Reps.c7 {α : Type} {R : α → List Value → Prop} {ps : List α} {cs : List Value} {p : α} {va vb vc vd ve vf vg : Value} (hp : R p [va, vb, vc, vd, ve, vf, vg]) (h : Reps R 7 ps cs) : Reps R 7 (p :: ps) (va :: vb :: vc :: vd :: ve :: vf :: vg :: cs) := Reps.front hp rfl h rfl
theorem Reps.c8 {α : Type} {R : α → List Value → Prop} {ps : List α} {cs : List Value} {p : α} {va vb vc vd ve vf vg vh : Value} (hp : R p [va, vb, vc, vd, ve, vf, vg, vh]) (h : Reps R 8 ps cs) : Reps R 8 (p :: ps) (va :: vb :: vc :: vd :: ve :: vf :: vg :: vh :: cs) := Reps.front hp rfl h rfl
theorem Reps.c9 {α : Type} {R : α → List Value → Prop} {ps : List α} {cs : List Value} {p : α} {va vb vc vd ve vf vg vh vi : Value} (hp : R p [va, vb, vc, vd, ve, vf, vg, vh, vi]) (h : Reps R 9 ps cs) : Reps R 9 (p :: ps) (va :: vb :: vc :: vd :: ve :: vf :: vg :: vh :: vi :: cs) := Reps.front hp rfl h rfl
theorem Reps.c10 {α : Type} {R : α → List Value → Prop} {ps : List α} {cs : List Value} {p : α} {va vb vc vd ve vf vg vh vi vj : Value} (hp : R p [va, vb, vc, vd, ve, vf, vg, vh, vi, vj]) (h : Reps R 10 ps cs) : Reps R 10 (p :: ps) (va :: vb :: vc :: vd :: ve :: vf :: vg :: vh :: vi :: vj :: cs) := Reps.front hp rfl h rfl
end Go.Proofs.YtomgfhapmhagnaaW.PrintWords
end

section
namespace Go.Proofs.YtomgfhapmhagnaaW.PrintLast
open Go.Proofs.YtomgfhapmhagnaaW.PrintWords (Aside0)
def reachT (T : List (List Nat × List Nat)) (i : Nat) : Nat → Nat → Bool
  | 0, _ => false
  | fuel + 1, d => match T[d]? with
    | some r => r.1.any fun j => j == i || reachT T i fuel j
    | none => false
def lastT (T : List (List Nat × List Nat)) (l : List Bool) (ds : List Nat) (i : Nat) : Bool := ds.all fun d => l.getD d true || reachT T i T.length d
section
variable {md : Region.Mode} {ops : Array Oper} {T : Bool × List (List Nat × List Nat)} {l l' li lj lk : Array Bool} {ds : List Nat} {i j k : Nat}
end
end Go.Proofs.YtomgfhapmhagnaaW.PrintLast
end

section
namespace Go.Proofs.Ytomgfhapmhagnaa.Lib
set_option linter.unusedVariables false
set_option linter.unusedSimpArgs false
open Go.RowKit Go.Proofs.YtomgfhapmhagnaaW.PrintWords
def Bytes (xs : List Int) : Prop := ∀ x ∈ xs, 0 ≤ x ∧ x < 256
theorem Bytes.nil : Bytes [] := fun _ h => by cases h
theorem Bytes.append {xs ys : List Int} (h : Bytes xs) (h2 : Bytes ys) : Bytes (xs ++ ys) := fun x hx => by
  rcases List.mem_append.1 hx with hx | hx
  · exact h x hx
  · exact h2 x hx
theorem Bytes.cons {x : Int} {xs : List Int} (h0 : 0 ≤ x ∧ x < 256) (h : Bytes xs) : Bytes (x :: xs) := fun y hy => by
  rcases List.mem_cons.1 hy with rfl | hy
  · exact h0
  · exact h y hy
theorem Bytes.take {xs : List Int} (h : Bytes xs) (n : Nat) : Bytes (xs.take n) := fun x hx => h x (List.mem_of_mem_take hx)
theorem Bytes.drop {xs : List Int} (h : Bytes xs) (n : Nat) : Bytes (xs.drop n) := fun x hx => h x (List.mem_of_mem_drop hx)
theorem rd_nat (xs : List Int) (k : Nat) : rd xs (k : Int) = xs.getD k 0 := rfl
theorem Bytes.getD {xs : List Int} (h : Bytes xs) (k : Nat) : 0 ≤ xs.getD k 0 ∧ xs.getD k 0 < 256 := by
  rw [List.getD_eq_getElem?_getD]
  by_cases hk : k < xs.length
  · rw [List.getElem?_eq_getElem hk]; exact h _ (List.getElem_mem hk)
  · rw [List.getElem?_eq_none (by omega)]; exact ⟨by decide, by decide⟩
theorem Bytes.rd {xs : List Int} (h : Bytes xs) (i : Int) : 0 ≤ rd xs i ∧ rd xs i < 256 := h.getD i.toNat
theorem wraps_u64 (n : Int) (h₀ : 0 ≤ n) (h₁ : n < 2 ^ 64) : IntKind.u64.wrap n = n := by
  simp only [IntKind.wrap, IntKind.bits, IntKind.signed]
  simp
  omega
def varint (n : Nat) : List Int := if n < 128 then [(n : Int)] else ((n % 128 + 128 : Nat) : Int) :: varint (n / 128)
termination_by n
decreasing_by omega
theorem varint_small {n : Nat} (h : n < 128) : varint n = [(n : Int)] := by rw [varint, if_pos h]
theorem varint_big {n : Nat} (h : 128 ≤ n) : varint n = ((n % 128 + 128 : Nat) : Int) :: varint (n / 128) := by rw [varint, if_neg (by omega)]
theorem varint_le (k : Nat) : ∀ n, n < 128 ^ (k + 1) → (varint n).length ≤ k + 1 := by
  induction k with
  | zero => intro n h; rw [varint_small (by simpa using h)]; simp
  | succ k ih =>
    intro n h
    by_cases h1 : n < 128
    · rw [varint_small h1]; simp
    · rw [varint_big (by omega)]
      have h2 : n / 128 < 128 ^ (k + 1) := by
        rw [Nat.div_lt_iff_lt_mul (by decide)]
        rw [Nat.pow_succ] at h; exact h
      have := ih _ h2
      rw [List.length_cons]; omega
theorem varint_le10 {n : Nat} (h : n < 18446744073709551616) : (varint n).length ≤ 10 := varint_le 9 n (by
  have : (18446744073709551616 : Nat) < 128 ^ 10 := by decide
  omega)
theorem or128 (n : Nat) : bits .or .u8 ((n : Int) % 256) 128 = ((n % 128 + 128 : Nat) : Int) := by
  have e : (n : Int) % 256 = ((n % 256 : Nat) : Int) := by omega
  rw [e]
  have h := (bits_nat .u8 8 (by decide) wraps_u8 (n % 256) 128 (Nat.mod_lt _ (by decide)) (by decide)).2
  have e2 : ((128 : Nat) : Int) = 128 := rfl
  rw [e2] at h
  rw [h]
  have key : ∀ m, m < 256 → m ||| 128 = m % 128 + 128 := by decide +kernel
  rw [key _ (Nat.mod_lt _ (by decide))]
  omega
theorem wrap_u64 (n : Int) : IntKind.u64.wrap n = n % 18446744073709551616 := by
  simp [IntKind.wrap, IntKind.bits, IntKind.signed]
theorem cells_of_C {k : IntKind} {w : World} {A : Option Addr} {xs : List Int} {b : Addr} (h : (Kd.int k).C w A xs.length xs) (hb : A = some b) : ∀ j u, (nums k xs)[j]? = some u → w.cell? (b.add j) = some u := by
  intro j u hu
  have hj : j < xs.length := by
    have := (List.getElem?_eq_some_iff.1 hu).1
    simpa [nums] using this
  obtain ⟨ad, e, hc⟩ := Kd.at_int h j (by omega) (by omega)
  rw [hb] at e
  cases e
  rw [Int.toNat_natCast, rd_nat] at hc
  rw [hc]
  simp only [nums, List.getElem?_map, List.getElem?_eq_getElem hj, Option.map_some, Option.some.injEq] at hu
  rw [← hu, List.getD_eq_getElem?_getD, List.getElem?_eq_getElem hj]; rfl
theorem R_plain {α : Type} {d : Kd α} {e : Nat} {w : World} {base : Nat} {ok : Nat → Prop} {A : Option Addr} {n c : Nat} {xs : List α} (h : d.R e w base ok (.slice A n c) xs) (hn : 0 < n) : ∃ g, A = some ⟨g, 0, none⟩ ∧ base ≤ g ∧ n = xs.length := by
  obtain ⟨_, inner, ho, _⟩ := h
  rcases ho.2 with ⟨e1, _⟩ | ⟨g, cap, cur, e1, hg, _⟩
  · injection e1 with _ e1 _; omega
  · injection e1 with e1 e2 _
    exact ⟨g, e1, hg, e2⟩
theorem R_len {α : Type} {d : Kd α} {e : Nat} {w : World} {base : Nat} {ok : Nat → Prop} {A : Option Addr} {n c : Nat} {xs : List α} (h : d.R e w base ok (.slice A n c) xs) : n = xs.length ∧ n ≤ c := by
  obtain ⟨A', c', e1, h1, _⟩ := Kd.R_reads h
  injection e1 with _ e2 e3
  omega
theorem C_none {k : IntKind} {w : World} {xs : List Int} (h : (Kd.int k).C w none xs.length xs) : xs = [] := by
  rcases xs with _ | ⟨x, l⟩
  · rfl
  · obtain ⟨ad, h, _⟩ := h.2.2 (by simp)
    cases h
section
variable {P : Program} {ops : Array Oper} {rest : List Oper} {o : Oper} {a : Act} {Q : Exit → Act → World → Prop}
theorem append_clip {k : IntKind} {w0 W : World} (base : Nat) (hgd : o.guard = none) (s x : Operand) (t e : TypeId) (bytes : Nat)
    (ho : o.op = .call { callee := .builtin .append, args := #[s, x], argTypes := #[t, t] })
    (ht : P.underlying t = some (.slice e)) (hinfo : (P.info? e).map (fun i => (i.zero, i.size, i.bytes)) = some (some (.int k 0), 1, bytes))
    (xs : List Int) (A : Option Addr) (b : Int) (hs : a.eval s = .slice A xs.length xs.length) (hx : a.eval x = .slice (some ⟨W.heap.size, 0, none⟩) 1 1)
    (hC : (Kd.int k).C W A xs.length xs) (HB : Below base w0 W) (hbase : base ≤ W.heap.size) (hb0 : 0 < bytes) (hl : (xs.length + 1) * bytes ≤ 140737488355328)
    (h : ∀ v1 w1, (Kd.int k).R e w1 base (fun _ => True) v1 (xs ++ [b]) → Below base w0 w1 → Below W.heap.size W w1 → wpList P ops Q rest (a.put o.dst v1) w1) :
    wpList P ops Q (o :: rest) a (W.alloc (.cells #[.int k b] e)) := by
  obtain ⟨i0, hi, hz0, hz1, hz2⟩ := info_parts hinfo
  have hB2 : Below W.heap.size W (W.alloc (.cells #[.int k b] e)) := below_alloc (Below.refl _ _) _
  have hC2 := Kd.C_below hC hB2
  have hlen : xs.length + 1 ≤ 140737488355328 := Nat.le_trans (Nat.le_mul_of_pos_right _ hb0) hl
  refine wpList_append_grows (W.alloc (.cells #[.int k b] e)) hgd s x t ho e i0 (.int k 0) 1 bytes ht hi hz0 hz1 hz2 rfl (by decide) A xs.length xs.length (nums k xs) hs ?_ (by simp [nums]) ?_ ⟨W.heap.size, 0, none⟩ 1 1 [.int k b] hx rfl ?_ ?_ (by omega) (by unfold maxLen; omega) hl ?_
  · rintro rfl; have := C_none hC; simp [this]
  · intro b' hb'; exact cells_of_C hC2 hb'
  · intro j u hu
    rcases j with _ | j
    · simp only [List.getElem?_cons_zero, Option.some.injEq] at hu
      subst hu
      rw [add_plain]
      simp [go_sem]
    · simp at hu
  · intro u hu
    simp only [List.mem_singleton] at hu
    subst hu
    rfl
  · intro v1 w1 hown hg
    have hW : W.heap.size ≤ (W.alloc (.cells #[.int k b] e)).heap.size := by simp
    refine h v1 w1 (Kd.R_of_own ?_ (fun _ _ => trivial)) ?_ ?_
    · have e1 : encs (Value.int k) (xs ++ [b]) = nums k xs ++ [.int k b] := by simp [encs, nums]
      rw [e1]
      have e2 : (xs ++ [b]).length = xs.length + 1 := by simp
      rw [e2]
      exact own_weaken hown (Nat.le_trans hbase hW)
    · exact pw_below_grown (HB.alloc hbase _) none (Nat.le_trans hbase hW) hg (fun _ h => by cases h)
    · exact pw_below_grown hB2 none hW hg (fun _ h => by cases h)
end
end Go.Proofs.Ytomgfhapmhagnaa.Lib
end

section
namespace Go.Proofs.Ytomgfhapmhagnaa.Lib
set_option linter.unusedVariables false
set_option linter.unusedSimpArgs false
open Go.RowKit Go.Proofs.YtomgfhapmhagnaaW.PrintWords Go.Proofs.YtomgfhapmhagnaaW.PrintLast
section
variable {P : Program} {ops : Array Oper} {Q : Exit → Act → World → Prop} {md : Region.Mode} {S S' : World → Prop}
theorem more_all (hSS : ∀ w, S' w → S w) : ∀ (fuel : Nat) (l : Array Bool) (a : Act) (w : World), S' w → wpAnyLast P md ops Q S' [] fuel l a w → wpAnyLast P md ops Q S [] fuel l a w
  | 0, _, _, _, _, h => h
  | fuel + 1, l, a, w, hw, h => ⟨h.1, fun i hi => wpOp_mono (fun a' w' h' => ⟨fun _ _ => hSS _ (h'.1 (by simp) hw), more_all hSS fuel _ a' w' (h'.1 (by simp) hw) h'.2⟩) (h.2 i hi)⟩
theorem more_ {fuel : Nat} {l : Array Bool} {a : Act} {w : World} (hSS : ∀ w, S' w → S w) (hw : S' w) (h : S' w → wpAnyLast P md ops Q S' [] fuel l a w) : wpAnyLast P md ops Q S [] fuel l a w :=
  more_all hSS fuel l a w hw (h hw)
end
section
variable {P : Program} {ops : Array Oper} {Q : Exit → Act → World → Prop}
theorem goesLv_ {rest : List Oper} {oi : Oper} {a : Act} {w : World} (N : Option Tmp) (hd : oi.dst = N) (hg : oi.guard = none) {f : FuncId} {fn : Func} {x : Operand} {ars : Array Operand} {ts : Array TypeId} {first cap : Array Value} (hf : P.funcs[f]? = some fn) (hname : (fn.name == "runtime.NumGoroutine") = false) (hb : fn.body.isSome = true) (args : Array Value)
    (hop : oi.op = .call { callee := .value x, args := ars, argTypes := ts }) (hx : a.eval x = .func (.func f) first cap) (hargs : ars.map a.eval = args)
    (h : Calls P f (first ++ args ++ cap) w fun e w' => ∃ v, e = .returned v ∧ wpList P ops Q rest (a.put N v) w') : wpList P ops Q (oi :: rest) a w := by
  refine wpList_plain hg fun K hK => ?_
  have he := enters_ hf hname hb (first ++ args ++ cap) w
  have hrun : (execOp a.eval oi).run P w = .ok (.enter f (first ++ args ++ cap)) w := by
    unfold execOp
    simp [hop, resolve, Deferred.ofValue, hx, invoke, hargs, he, -Array.append_assoc]
  unfold Oper.wp
  rw [hrun, Oper.upon_enter]
  refine h.mono fun e w'' hh => ?_
  obtain ⟨v, rfl, hk⟩ := hh
  rw [hd]
  exact hK _ _ hk
end
end Go.Proofs.Ytomgfhapmhagnaa.Lib
end

section
namespace Go.Proofs.Ytomgfhapmhagnaa.Txt
set_option linter.unusedVariables false
set_option linter.unusedSimpArgs false
open Go.RowKit Go.Proofs.YtomgfhapmhagnaaW.PrintWords Go.Proofs.Ytomgfhapmhagnaa.Lib
abbrev T := List UInt8
def bs (t : T) : ByteArray := ⟨t.toArray⟩
theorem bs_data (t : T) : (bs t).data.toList = t := rfl
theorem bs_of (s : ByteArray) : bs s.data.toList = s := rfl
theorem bs_size (t : T) : (bs t).size = t.length := rfl
theorem less_is (a b : ByteArray) : Op.bytesLess a.toList b.toList = decide (a.data.toList < b.data.toList) := by
  rw [ByteArray.toList_eq, ByteArray.toList_eq, bytesLess_eq]
def text : Kd T := Kd.scalar encStr (fun _ => rfl)
theorem at_text {w : World} {A : Option Addr} {n : Nat} {xs : List T} (h : text.C w A n xs) (k : Nat) (hk : k < n) : ∃ ad, A = some ad ∧ w.cell? (ad.add k) = some (.string (bs (xs.getD k []))) := by
  obtain ⟨ad, c, e, hc, hK, hcell⟩ := Kd.C_get h [] (k : Int) (by omega) (by omega)
  rw [Int.toNat_natCast] at hK hcell
  have hK' : c = [encStr (xs.getD k [])] := hK
  subst hK'
  have := hcell 0 _ rfl
  have e1 : text.sz = 1 := rfl
  rw [e1, Nat.mul_one, Nat.add_zero] at this
  exact ⟨ad, e, this⟩
theorem lt_irrefl (a : T) : ¬ a < a := List.lt_irrefl a
theorem lt_trans {a b c : T} (h : a < b) (h2 : b < c) : a < c := List.lt_trans h h2
theorem lt_or (a b : T) : a < b ∨ a = b ∨ b < a := by
  by_cases h1 : a < b
  · exact .inl h1
  · by_cases h2 : b < a
    · exact .inr (.inr h2)
    · exact .inr (.inl (List.le_antisymm h2 h1))
theorem lt_of_le_lt {a b c : T} (h : a ≤ b) (h2 : b < c) : a < c := by
  rcases lt_or a b with h3 | rfl | h3
  · exact lt_trans h3 h2
  · exact h2
  · exact absurd h3 h
theorem lt_of_lt_le {a b c : T} (h : a < b) (h2 : b ≤ c) : a < c := by
  rcases lt_or b c with h3 | rfl | h3
  · exact lt_trans h h3
  · exact h
  · exact absurd h3 h2
theorem lt_of_le_ne {a b : T} (h : a ≤ b) (h2 : a ≠ b) : a < b := by
  rcases lt_or a b with h3 | rfl | h3
  · exact h3
  · exact absurd rfl h2
  · exact absurd h3 h
theorem le_trans {a b c : T} (h : a ≤ b) (h2 : b ≤ c) : a ≤ c := fun h3 => h2 (lt_of_lt_le h3 h)
def built (l : List T) : List T := Go.Lib.compact (l.mergeSort fun x y => decide (x ≤ y))
theorem compact_rises (d : Array T) (h : ∀ i j, i ≤ j → j < d.size → d[i]! ≤ d[j]!) (m : Nat) (hm : m ≤ d.size) : (Go.Lib.compactUpTo d m).Pairwise (· < ·) := by
  unfold Go.Lib.compactUpTo
  rw [List.pairwise_map]
  have h1 : (List.range m).Pairwise (· < ·) := List.pairwise_lt_range
  refine (h1.filter (Go.Lib.keeps d)).imp_of_mem (fun {i j} hi hj hij => ?_)
  rw [List.mem_filter, List.mem_range] at hi hj
  have hk : j = 0 ∨ d[j]! ≠ d[j - 1]! := of_decide_eq_true hj.2
  rcases hk with hk | hk
  · omega
  · exact lt_of_le_lt (h i (j - 1) (by omega) (by omega)) (lt_of_le_ne (h (j - 1) j (by omega) (by omega)) (fun e => hk e.symm))
theorem compact_has (d : Array T) : ∀ k, ∃ j, j ≤ k ∧ Go.Lib.keeps d j = true ∧ d[j]! = d[k]!
  | 0 => ⟨0, Nat.le_refl _, by simp [Go.Lib.keeps], rfl⟩
  | k + 1 => by
    by_cases h : d[k + 1]! = d[k]!
    · obtain ⟨j, h1, h2, h3⟩ := compact_has d k
      exact ⟨j, by omega, h2, by rw [h3, h]⟩
    · exact ⟨k + 1, Nat.le_refl _, by simp [Go.Lib.keeps, h], rfl⟩
theorem compact_mem (d : Array T) (m : Nat) (y : T) : y ∈ Go.Lib.compactUpTo d m ↔ ∃ k, k < m ∧ d[k]! = y := by
  unfold Go.Lib.compactUpTo
  simp only [List.mem_map, List.mem_filter, List.mem_range]
  constructor
  · rintro ⟨j, ⟨h1, _⟩, h2⟩; exact ⟨j, h1, h2⟩
  · rintro ⟨k, h1, h2⟩
    obtain ⟨j, h3, h4, h5⟩ := compact_has d k
    exact ⟨j, ⟨by omega, h4⟩, by rw [h5, h2]⟩
theorem built_rises (l : List T) : (built l).Pairwise (· < ·) := by
  unfold built Go.Lib.compact
  refine compact_rises _ (fun i j hij hj => ?_) _ (by simp)
  have hs : (l.mergeSort fun x y => decide (x ≤ y)).Pairwise (fun x y => decide (x ≤ y) = true) := by
    refine List.pairwise_mergeSort (fun a b c h1 h2 => ?_) (fun a b => ?_) l
    · exact decide_eq_true (le_trans (of_decide_eq_true h1) (of_decide_eq_true h2))
    · rw [Bool.or_eq_true]
      rcases lt_or a b with h | rfl | h
      · exact .inl (decide_eq_true (fun h2 => lt_irrefl _ (lt_trans h h2)))
      · exact .inl (decide_eq_true (lt_irrefl a))
      · exact .inr (decide_eq_true (fun h2 => lt_irrefl _ (lt_trans h h2)))
  generalize (l.mergeSort fun x y => decide (x ≤ y)) = s at *
  have hj' : j < s.length := by simpa using hj
  have e1 : s.toArray[i]! = s[i] := by rw [getElem!_pos _ i (by simp; omega)]; rfl
  have e2 : s.toArray[j]! = s[j] := by rw [getElem!_pos _ j (by simpa using hj)]; rfl
  rw [e1, e2]
  rcases Nat.lt_or_eq_of_le hij with h | rfl
  · exact of_decide_eq_true (List.pairwise_iff_getElem.1 hs i j (by omega) hj' h)
  · exact lt_irrefl _
theorem built_mem (l : List T) (y : T) : y ∈ built l ↔ y ∈ l := by
  unfold built Go.Lib.compact
  rw [compact_mem]
  have hp : (l.mergeSort fun x y => decide (x ≤ y)).Perm l := List.mergeSort_perm l _
  rw [← hp.mem_iff]
  generalize (l.mergeSort fun x y => decide (x ≤ y)) = s
  constructor
  · rintro ⟨k, h1, rfl⟩
    rw [getElem!_pos _ k (by simpa using h1)]
    simp
  · intro h
    obtain ⟨k, hk, rfl⟩ := List.getElem_of_mem h
    exact ⟨k, hk, by rw [getElem!_pos _ k (by simpa using hk)]; rfl⟩
theorem built_le (l : List T) : (built l).length ≤ l.length := by
  unfold built
  exact Nat.le_trans (Go.Lib.compact_length_le _) (by simp)
def fromOf (l : List T) (s : T) : Nat := (l.takeWhile fun t => decide (t < s)).length
theorem fromOf_le (l : List T) (s : T) : fromOf l s ≤ l.length := by
  unfold fromOf
  exact (List.takeWhile_prefix _).length_le
theorem fromOf_lt : ∀ (l : List T) (s : T) (i : Nat), i < fromOf l s → l.getD i [] < s
  | [], s, i, h => by simp [fromOf] at h
  | x :: l, s, i, h => by
    unfold fromOf at h
    rw [List.takeWhile_cons] at h
    split at h
    · rename_i hx
      rcases i with _ | i
      · exact of_decide_eq_true hx
      · exact fromOf_lt l s i (by unfold fromOf; simpa using h)
    · simp at h
theorem fromOf_not : ∀ (l : List T) (s : T), fromOf l s < l.length → ¬ l.getD (fromOf l s) [] < s
  | [], s, h => by simp [fromOf] at h
  | x :: l, s, h => by
    have e : fromOf (x :: l) s = if x < s then fromOf l s + 1 else 0 := by
      unfold fromOf; rw [List.takeWhile_cons]; by_cases hx : x < s <;> simp [hx]
    rw [e] at h ⊢
    by_cases hx : x < s
    · rw [if_pos hx] at h ⊢
      simpa using fromOf_not l s (by simpa using h)
    · rw [if_neg hx]; simpa using hx
theorem fromOf_is (l : List T) (s : T) (k : Nat) (h1 : k ≤ l.length) (h2 : ∀ i, i < k → l.getD i [] < s) (h3 : k < l.length → ¬ l.getD k [] < s) : k = fromOf l s := by
  rcases Nat.lt_trichotomy k (fromOf l s) with h | h | h
  · exact absurd (fromOf_lt l s k h) (h3 (Nat.lt_of_lt_of_le h (fromOf_le l s)))
  · exact h
  · exact absurd (h2 _ h) (fromOf_not l s (by omega))
theorem rises_at {l : List T} (h : l.Pairwise (· < ·)) (i j : Nat) (hij : i < j) (hj : j < l.length) : l.getD i [] < l.getD j [] := by
  have := List.pairwise_iff_getElem.1 h i j (by omega) hj hij
  rw [List.getD_eq_getElem?_getD, List.getElem?_eq_getElem (by omega), List.getD_eq_getElem?_getD, List.getElem?_eq_getElem hj]
  exact this
theorem rises_le {l : List T} (h : l.Pairwise (· < ·)) (i j : Nat) (hij : i ≤ j) (hj : j < l.length) : l.getD i [] ≤ l.getD j [] := by
  rcases Nat.lt_or_eq_of_le hij with h2 | rfl
  · exact fun h3 => lt_irrefl _ (lt_trans h3 (rises_at h i j h2 hj))
  · exact lt_irrefl _
def has (l : List T) (s : T) : Bool := decide (fromOf l s < l.length ∧ l.getD (fromOf l s) [] = s)
theorem has_iff {l : List T} (h : l.Pairwise (· < ·)) (s : T) : has l s = true ↔ s ∈ l := by
  unfold has
  rw [decide_eq_true_iff]
  constructor
  · rintro ⟨h1, h2⟩
    rw [← h2, List.getD_eq_getElem?_getD, List.getElem?_eq_getElem h1]
    exact List.getElem_mem h1
  · intro hm
    obtain ⟨k, hk, rfl⟩ := List.getElem_of_mem hm
    have e : l.getD k [] = l[k] := by rw [List.getD_eq_getElem?_getD, List.getElem?_eq_getElem hk]; rfl
    have : k = fromOf l l[k] := fromOf_is l _ k (by omega) (fun i hi => by rw [← e]; exact rises_at h i k hi hk) (fun _ => by rw [e]; exact lt_irrefl _)
    rw [← this, e]
    exact ⟨hk, rfl⟩
theorem fromOf_at {l : List T} (h : l.Pairwise (· < ·)) (k : Nat) (hk : k < l.length) : fromOf l (l.getD k []) = k :=
  (fromOf_is l _ k (by omega) (fun i hi => rises_at h i k hi hk) (fun _ => lt_irrefl _)).symm
def begins (s p : T) : Bool := p.isPrefixOf s
theorem begins_iff (s p : T) : begins s p = true ↔ p <+: s := List.isPrefixOf_iff_prefix
theorem begins_take (s p : T) : begins s p = decide (p.length ≤ s.length ∧ s.take p.length = p) := by
  rw [Bool.eq_iff_iff, begins_iff, decide_eq_true_iff]
  constructor
  · intro h
    exact ⟨h.length_le, (List.prefix_iff_eq_take.1 h).symm⟩
  · rintro ⟨_, h⟩
    exact List.prefix_iff_eq_take.2 h.symm
theorem begins_mid : ∀ (p a b : T), p ≤ a → a ≤ b → p <+: b → p <+: a
  | [], a, b, _, _, _ => List.nil_prefix
  | x :: p, [], b, h, _, _ => absurd (by exact List.nil_lt_cons x p) h
  | x :: p, y :: a, [], _, _, h => by simp at h
  | x :: p, y :: a, z :: b, h1, h2, h3 => by
    rw [List.cons_prefix_cons] at h3
    obtain ⟨rfl, h3⟩ := h3
    have e1 : ¬ y < x := fun h => h1 (by rw [List.cons_lt_cons_iff]; exact .inl h)
    have e2 : ¬ x < y := fun h => h2 (by rw [List.cons_lt_cons_iff]; exact .inl h)
    have e : x = y := by
      apply UInt8.toNat_inj.1
      have e1' : ¬ y.toNat < x.toNat := fun h => e1 (UInt8.lt_iff_toNat_lt.2 h)
      have e2' : ¬ x.toNat < y.toNat := fun h => e2 (UInt8.lt_iff_toNat_lt.2 h)
      omega
    subst e
    rw [List.cons_prefix_cons]
    refine ⟨rfl, begins_mid p a b (fun h => h1 ?_) (fun h => h2 ?_) h3⟩
    · rw [List.cons_lt_cons_iff]; exact .inr ⟨rfl, h⟩
    · rw [List.cons_lt_cons_iff]; exact .inr ⟨rfl, h⟩
end Go.Proofs.Ytomgfhapmhagnaa.Txt
end

section
namespace Go.Proofs
open Go.Shelf
def Try.lays190_ren : Go.Shelf.Ren := ⟨fun | 190 => 25 | 125 => 49 | 258 => 48 | 128 => 66 | 129 => 67 | 302 => 57 | 303 => 58 | 304 => 59 | 305 => 60 | 306 => 61 | 307 => 62 | 308 => 63 | 309 => 64 | 310 => 65 | 333 => 70 | 329 => 71 | 330 => 72 | 334 => 73 | 335 => 74 | 336 => 75 | 344 => 76 | n => n, fun | 31 => 22 | 9 => 9 | 3 => 3 | 46 => 80 | 0 => 0 | 51 => 94 | 53 => 46 | 4 => 4 | 183 => 88 | 182 => 87 | 131 => 34 | 5 => 5 | 218 => 96 | 222 => 99 | 228 => 101 | 229 => 40 | n => n, fun | n => n⟩
theorem Try.lays190 : Go.Proofs.Lays.n190 Try.prog Try.lays190_ren := {
  mixed := by kernel_rfl
  f125 := Try.func49.trans (congrArg some (by kernel_rfl))
  f128 := Try.func66.trans (congrArg some (by kernel_rfl))
  f129 := Try.func67.trans (congrArg some (by kernel_rfl))
  f190 := Try.func25.trans (congrArg some (by kernel_rfl))
  f258 := Try.func48.trans (congrArg some (by kernel_rfl))
  f302 := Try.func57.trans (congrArg some (by kernel_rfl))
  f303 := Try.func58.trans (congrArg some (by kernel_rfl))
  f304 := Try.func59.trans (congrArg some (by kernel_rfl))
  f305 := Try.func60.trans (congrArg some (by kernel_rfl))
  f306 := Try.func61.trans (congrArg some (by kernel_rfl))
  f307 := Try.func62.trans (congrArg some (by kernel_rfl))
  f308 := Try.func63.trans (congrArg some (by kernel_rfl))
  f309 := Try.func64.trans (congrArg some (by kernel_rfl))
  f310 := Try.func65.trans (congrArg some (by kernel_rfl))
  f329 := Try.func71.trans (congrArg some (by kernel_rfl))
  f330 := Try.func72.trans (congrArg some (by kernel_rfl))
  f333 := Try.func70.trans (congrArg some (by kernel_rfl))
  f334 := Try.func73.trans (congrArg some (by kernel_rfl))
  f335 := Try.func74.trans (congrArg some (by kernel_rfl))
  f336 := Try.func75.trans (congrArg some (by kernel_rfl))
  f344 := Try.func76.trans (congrArg some (by kernel_rfl))
  t0 := Try.underlying0
  a0 := Try.isAgg0
  z0 := Try.sizeOf0
  v0 := Try.zeroValue0
  t3 := Try.underlying3
  a3 := Try.isAgg3
  z3 := Try.sizeOf3
  v3 := Try.zeroValue3
  t4 := Try.underlying4
  a4 := Try.isAgg4
  z4 := Try.sizeOf4
  v4 := Try.zeroValue4
  t5 := Try.underlying5
  a5 := Try.isAgg5
  z5 := Try.sizeOf5
  v5 := Try.zeroValue5
  t9 := Try.underlying9
  a9 := Try.isAgg9
  z9 := Try.sizeOf9
  v9 := Try.zeroValue9
  t31 := Try.underlying22
  a31 := Try.isAgg22
  z31 := Try.sizeOf22
  v31 := Try.zeroValue22
  t46 := Try.underlying80
  a46 := Try.isAgg80
  z46 := Try.sizeOf80
  v46 := Try.zeroValue80
  t51 := Try.underlying94
  a51 := Try.isAgg94
  z51 := Try.sizeOf94
  v51 := Try.zeroValue94
  t53 := Try.underlying46
  a53 := Try.isAgg46
  z53 := Try.sizeOf46
  v53 := Try.zeroValue46
  t131 := Try.underlying34
  a131 := Try.isAgg34
  z131 := Try.sizeOf34
  v131 := Try.zeroValue34
  t182 := Try.underlying87
  a182 := Try.isAgg87
  z182 := Try.sizeOf87
  v182 := Try.zeroValue87
  t183 := Try.underlying88
  a183 := Try.isAgg88
  z183 := Try.sizeOf88
  v183 := Try.zeroValue88
  t218 := Try.underlying96
  a218 := Try.isAgg96
  z218 := Try.sizeOf96
  v218 := Try.zeroValue96
  t222 := Try.underlying99
  a222 := Try.isAgg99
  z222 := Try.sizeOf99
  v222 := Try.zeroValue99
  t228 := Try.underlying101
  a228 := Try.isAgg101
  z228 := Try.sizeOf101
  v228 := Try.zeroValue101
  t229 := Try.underlying40
  a229 := Try.isAgg40
  z229 := Try.sizeOf40
  v229 := Try.zeroValue40 }
open Go.Sort Go.RowKit in
theorem Try.slices_Sort_string (blk off cap : Nat) (ss : List (List UInt8)) (w : World) (hH : Holds encStr w blk off ss.toArray) (hblk : blk < w.heap.size) (hsz : ss.length < 4611686018427387904) :
    Calls Try.prog 25 #[.slice (some ⟨blk, off, none⟩) ss.length cap] w fun e w' =>
      e = .returned (.tuple #[]) ∧ ∃ n os, w' = grow (putRow encStr (Sort.ahead w n) blk off (ss.mergeSort fun x y => decide (x ≤ y)).toArray) os := Any.slices_Sort_string Try.lays190 blk off cap ss w hH hblk hsz
def Try.lays206_ren : Go.Shelf.Ren := ⟨fun | 206 => 52 | n => n, fun | 9 => 9 | 4 => 4 | 3 => 3 | n => n, fun | n => n⟩
theorem Try.lays206 : Go.Proofs.Lays.n206 Try.prog Try.lays206_ren := {
  mixed := by kernel_rfl
  f206 := Try.func52.trans (congrArg some (by kernel_rfl))
  t3 := Try.underlying3
  a3 := Try.isAgg3
  z3 := Try.sizeOf3
  v3 := Try.zeroValue3
  t4 := Try.underlying4
  a4 := Try.isAgg4
  z4 := Try.sizeOf4
  v4 := Try.zeroValue4
  t9 := Try.underlying9
  a9 := Try.isAgg9
  z9 := Try.sizeOf9
  v9 := Try.zeroValue9 }
open Go.RowKit Go.Lib in
theorem Try.stringslite_HasPrefix (s p : ByteArray) (w : World) :
    Calls Try.prog 52 #[.string s, .string p] w fun e w' => e = .returned (.bool (Lib.hasPrefix s.data.toList p.data.toList)) ∧ w' = w := Any.stringslite_HasPrefix Try.lays206 s p w
def Try.lays99_ren : Go.Shelf.Ren := ⟨fun | 99 => 32 | 206 => 52 | n => n, fun | 9 => 9 | 4 => 4 | 3 => 3 | n => n, fun | n => n⟩
theorem Try.lays99 : Go.Proofs.Lays.n99 Try.prog Try.lays99_ren := {
  mixed := by kernel_rfl
  f99 := Try.func32.trans (congrArg some (by kernel_rfl))
  f206 := Try.func52.trans (congrArg some (by kernel_rfl))
  t3 := Try.underlying3
  a3 := Try.isAgg3
  z3 := Try.sizeOf3
  v3 := Try.zeroValue3
  t4 := Try.underlying4
  a4 := Try.isAgg4
  z4 := Try.sizeOf4
  v4 := Try.zeroValue4
  t9 := Try.underlying9
  a9 := Try.isAgg9
  z9 := Try.sizeOf9
  v9 := Try.zeroValue9 }
open Go.RowKit Go.Lib in
theorem Try.strings_HasPrefix (s p : ByteArray) (w : World) :
    Calls Try.prog 32 #[.string s, .string p] w fun e w' => e = .returned (.bool (Lib.hasPrefix s.data.toList p.data.toList)) ∧ w' = w := Any.strings_HasPrefix Try.lays99 s p w
def Try.laysNm216_ren : Go.Shelf.Ren := ⟨fun | 16 => 24 | n => n, fun | 24 => 22 | 9 => 9 | 4 => 4 | n => n, fun | n => n⟩
theorem Try.laysNm216 : Go.Proofs.Lays2.n16 Try.prog Try.laysNm216_ren := {
  mixed := by kernel_rfl
  f16 := Try.func24.trans (congrArg some (by kernel_rfl))
  t4 := Try.underlying4
  a4 := Try.isAgg4
  z4 := Try.sizeOf4
  v4 := Try.zeroValue4
  t9 := Try.underlying9
  a9 := Try.isAgg9
  z9 := Try.sizeOf9
  v9 := Try.zeroValue9
  t24 := Try.underlying22
  a24 := Try.isAgg22
  z24 := Try.sizeOf22
  v24 := Try.zeroValue22
  i9 := by kernel_rfl }
open Go.RowKit Go.Lib in
theorem Try.slices_Clone_string (b off n c : Nat) (zs : List ByteArray) (w : World) (hz : n ≤ zs.length) (hbig : n * 16 ≤ 140737488355328) (hc : ∀ j, j < zs.length → w.cell? ⟨b, off + j, none⟩ = some (.string (zs.getD j ByteArray.empty))) :
    Calls Try.prog 24 #[.slice (some ⟨b, off, none⟩) n c] w fun e w' => ∃ v', e = .returned v' ∧ w'.ownsRow w.heap.size 9 1 v' n ((zs.take n).map (Value.string)) ∧ v' ≠ .slice none 0 0 ∧ Below w.heap.size w w' := Any.slices_Clone_string Try.laysNm216 b off n c zs w hz hbig hc
open Go.RowKit Go.Lib in
theorem Try.slices_Clone_string_nil (n c : Nat) (w : World) :
    Calls Try.prog 24 #[.slice none n c] w fun e w' => e = .returned (.slice none 0 0) ∧ w' = w := Any.slices_Clone_string_nil Try.laysNm216 n c w
open Go.RowKit Go.Lib in
theorem Try.slices_Clone_string_zero (a : Addr) (c : Nat) (w : World) :
    Calls Try.prog 24 #[.slice (some a) 0 c] w fun e w' => ∃ v', e = .returned v' ∧ w'.ownsRow w.heap.size 9 1 v' 0 [] ∧ v' ≠ .slice none 0 0 ∧ Below w.heap.size w w' := Any.slices_Clone_string_zero Try.laysNm216 a c w
def Try.lays194_ren : Go.Shelf.Ren := ⟨fun | 194 => 26 | n => n, fun | 31 => 22 | 9 => 9 | 3 => 3 | 4 => 4 | 0 => 0 | n => n, fun | n => n⟩
theorem Try.lays194 : Go.Proofs.Lays.n194 Try.prog Try.lays194_ren := {
  mixed := by kernel_rfl
  f194 := Try.func26.trans (congrArg some (by kernel_rfl))
  t0 := Try.underlying0
  a0 := Try.isAgg0
  z0 := Try.sizeOf0
  v0 := Try.zeroValue0
  t3 := Try.underlying3
  a3 := Try.isAgg3
  z3 := Try.sizeOf3
  v3 := Try.zeroValue3
  t4 := Try.underlying4
  a4 := Try.isAgg4
  z4 := Try.sizeOf4
  v4 := Try.zeroValue4
  t9 := Try.underlying9
  a9 := Try.isAgg9
  z9 := Try.sizeOf9
  v9 := Try.zeroValue9
  t31 := Try.underlying22
  a31 := Try.isAgg22
  z31 := Try.sizeOf22
  v31 := Try.zeroValue22 }
open Go.RowKit Go.Lib Go.Sort in
theorem Try.slices_Compact_string_arr (blk off cap : Nat) (d : Array (List UInt8)) (w : World) (hH : Holds encStr w blk off d) (hsz : d.size ≤ 9223372036854775807) (hcap : d.size ≤ cap) :
    Calls Try.prog 26 #[.slice (some ⟨blk, off, none⟩) d.size cap] w fun e w' => e = .returned (.slice (some ⟨blk, off, none⟩) (compactUpTo d d.size).length cap) ∧ ∃ q, w' = putRow encStr (Sort.ahead w q) blk off (compactUpTo d d.size ++ List.replicate (d.size - (compactUpTo d d.size).length) []).toArray := Any.slices_Compact_string_arr Try.lays194 blk off cap d w hH hsz hcap
open Go.RowKit Go.Lib Go.Sort in
theorem Try.slices_Compact_string (blk off cap : Nat) (zs : List (List UInt8)) (w : World) (hH : Holds encStr w blk off zs.toArray) (hsz : zs.length ≤ 9223372036854775807) (hcap : zs.length ≤ cap) :
    Calls Try.prog 26 #[.slice (some ⟨blk, off, none⟩) zs.length cap] w fun e w' => e = .returned (.slice (some ⟨blk, off, none⟩) (Lib.compact zs).length cap) ∧ ∃ q, w' = putRow encStr (Sort.ahead w q) blk off (Lib.compact zs ++ List.replicate (zs.length - (Lib.compact zs).length) []).toArray := Any.slices_Compact_string Try.lays194 blk off cap zs w hH hsz hcap
open Go.RowKit Go.Lib Go.Sort in
theorem Try.slices_Compact_string_empty (a : Option Addr) (cap : Nat) (w : World) :
    Calls Try.prog 26 #[.slice a 0 cap] w fun e w' => e = .returned (.slice a 0 cap) ∧ w' = w := Any.slices_Compact_string_empty Try.lays194 a cap w
open Go.RowKit Go.Lib Go.Sort in
theorem Try.slices_Compact_string_cells (b off n c : Nat) (Sx : Nat → ByteArray) (w : World) (hbig : n ≤ 9223372036854775807) (hcap : n ≤ c) (hc : ∀ i, i < n → w.cell? ⟨b, off + i, none⟩ = some (.string (Sx i))) (hf : ∀ j, j < n → w.frozen? ⟨b, off + j, none⟩ = false) :
    Calls Try.prog 26 #[.slice (some ⟨b, off, none⟩) n c] w fun e w' => e = .returned (.slice (some ⟨b, off, none⟩) (Lib.compact (Lib.strsOf Sx n)).length c) ∧ ∃ q, w' = (w.drewN q).setCells b off ((Lib.compact (Lib.strsOf Sx n) ++ List.replicate (n - (Lib.compact (Lib.strsOf Sx n)).length) []).map encStr) := Any.slices_Compact_string_cells Try.lays194 b off n c Sx w hbig hcap hc hf
open Go.RowKit Go.Sort in
theorem Try.slices_Sort_string_none (p : Option Addr) (cap : Nat) (w : World) :
    Calls Try.prog 25 #[.slice p 0 cap] w fun e w' => e = .returned (.tuple #[]) ∧ w' = w := Any.slices_Sort_string_none Try.lays190 p cap w
def Try.laysSlE041_f24_ren : Go.Shelf.Ren := ⟨fun | 41 => 24 | n => n, fun | 22 => 22 | 23 => 9 | 4 => 4 | n => n, fun | n => n⟩
theorem Try.laysSlE041_f24 : Go.Proofs.SlLaysE0.n41 Try.prog Try.laysSlE041_f24_ren := {
  mixed := by kernel_rfl
  f41 := ⟨Try.f24.name, by decide, Try.func24.trans (congrArg some (by kernel_rfl))⟩
  t4 := Try.underlying4
  a4 := Try.isAgg4
  z4 := Try.sizeOf4
  v4 := Try.zeroValue4
  t22 := Try.underlying22
  a22 := Try.isAgg22
  z22 := Try.sizeOf22
  v22 := Try.zeroValue22 }
open Go.RowKit Go.Lib in
theorem Try.slices_Clone (i0 : TypeInfo) (z : Value) (size bytes : Nat) (hi : Try.prog.info? 9 = some i0) (hz0 : i0.zero = some z) (hz1 : i0.size = size) (hz2 : i0.bytes = bytes) (hzs : z.cells.size = size) (hsz : 0 < size) (z23 : ∀ w, (Go.sizeOf 9).run Try.prog w = .ok size w) (b off n c : Nat) (news : List Value) (w : World) (hl : news.length = n * size) (hn : n ≤ maxLen) (hbig : n * bytes ≤ 140737488355328) (hc : ∀ j u, news[j]? = some u → w.cell? ⟨b, off + j, none⟩ = some u) (h1 : ∀ u ∈ news, u.oneCell' = true) :
    Calls Try.prog 24 #[.slice (some ⟨b, off, none⟩) n c] w fun e w' => ∃ v', e = .returned v' ∧ w'.ownsRow w.heap.size 9 size v' n news ∧ v' ≠ .slice none 0 0 ∧ Below w.heap.size w w' := AnyE.slices_Clone Try.laysSlE041_f24 i0 z size bytes hi hz0 hz1 hz2 hzs hsz z23 b off n c news w hl hn hbig hc h1
open Go.RowKit Go.Lib in
theorem Try.slices_Clone_nil (n c : Nat) (w : World) :
    Calls Try.prog 24 #[.slice none n c] w fun e w' => e = .returned (.slice none 0 0) ∧ w' = w := AnyE.slices_Clone_nil Try.laysSlE041_f24 n c w
end Go.Proofs
end

section
namespace Go.Proofs.Ytomgfhapmhagnaa.Txt
set_option linter.unusedVariables false
set_option linter.unusedSimpArgs false
open Go.RowKit Go.Proofs.YtomgfhapmhagnaaW.PrintWords Go.Proofs.YtomgfhapmhagnaaW.PrintLast Go.Proofs.YtomgfhapmhagnaaW.PrintMore Go.Proofs.Ytomgfhapmhagnaa.Lib
theorem infos : (Try.prog.info? 9).map (fun i => (i.zero, i.size, i.bytes)) = some (some (.string .empty), 1, 16) := by kernel_rfl
set_option maxRecDepth 100000 in
set_option maxHeartbeats 400000 in
theorem clone_texts (xs : List T) (len : Nat) (A : Option Addr) (c : Nat) (w : World) (hr : Kd.C text w A len xs) (hl : xs.length * 16 ≤ 140737488355328) :
    Calls Try.prog 24 #[.slice A len c] w fun e w' => ∃ v, e = .returned v ∧ Kd.R text 9 w' w.heap.size (fun _ => True) v xs ∧ Below w.heap.size w w' := by
  obtain rfl := hr.1
  have HR := Aside0.mk hr
  have HB := Aside0.mk (Below.refl w.heap.size w)
  clear hr
  have heq := fun u : World => Lib.run_eql_slice_nil (P := Try.prog) u 22 9 A xs.length c 0 0 Try.underlying22
  rcases A with _ | ad
  · have hx : xs = [] := by
      rcases xs with _ | ⟨x, l⟩
      · rfl
      · obtain ⟨ad, h, _⟩ := HR.out.2.2 (by simp)
        cases h
    subst hx
    simp only [List.length_nil, Option.isNone_none] at heq
    go_enter Try.func24, Try.ntmps24
    go_wp2
    go_ret
    exact ⟨_, rfl, Kd.R_nil _ _ _ _ _, HB.out⟩
  · go_enter Try.func24, Try.ntmps24
    go_wp2_with (first
      | ((with_reducible refine gate_dst (N := 5) rfl ?_); refine Kd.R_lit text (w0 := w) w.heap.size 9 ?hg (N := 5) ?hd (xs := ([] : List T)) (inner := []) (ok := fun _ => True) (okp := fun _ => True) ?hr (Reps.none _ _) (fun _ hk => hk) trivial HB.out (Nat.le_refl _) (by simp) ?_; (case hd => rfl); (case hg => rfl); (case hr => first | (go_simp; done) | (go_simp; rfl)); intro v1 w1 ho1 hb1 hg1 ha1; have HO := Aside0.mk ho1; have HB1 := Aside0.mk hb1; have HR1 := Aside0.mk (Kd.C_below HR.out hb1); clear ho1 hb1 hg1 ha1)
      | ((with_reducible refine gate_builtin (b := .append) (xs := #[.tmp 5, .tmp 6]) rfl ?_); at_builtin; refine Kd.R_append_rows text (w0 := w) w.heap.size rfl (.tmp 5) (.tmp 6) 22 9 (.string .empty) 16 rfl Try.underlying22 infos rfl (by decide) (by omega) v1 [] xs (some ad) xs.length c (fun _ => True) (fun _ => False) rfl rfl HO.out HR1.out ?aK (fun _ h => h.elim) (fun _ _ => trivial) HB1.out HB1.out.size ?aL ?_; (case aK => exact fun _ _ h => h); (case aL => simp only [List.length_nil, Nat.zero_add]; exact hl); intro v2 w2 ho2 hb2 hg2 ha2; have HO2 := Aside0.mk ho2; have HB2 := Aside0.mk hb2; clear ho2 hb2 hg2 ha2))
    go_ret
    exact ⟨_, rfl, HO2.out, HB2.out⟩
theorem R_at_text {e : TypeId} {w : World} {base : Nat} {ok : Nat → Prop} {g n c : Nat} {xs : List T} (h : text.R e w base ok (.slice (some ⟨g, 0, none⟩) n c) xs) (hn : 0 < n) :
    ∃ cur : Array Value, base ≤ g ∧ n = xs.length ∧ w.heap[g]? = some (.cells cur e (0, 0)) ∧ xs.length ≤ c ∧ c ≤ maxLen ∧ cur.size = c * 1 ∧ cur.toList.take xs.length = xs.map encStr := by
  have hl := (R_len h).1
  subst hl
  have ho := Kd.own_of_R h
  rcases ho.2 with ⟨e1, _⟩ | ⟨g', cap, cur, e1, hg, hb, h1, h2, h3, h4⟩
  · cases e1
  · injection e1 with e1 e2 e3
    injection e1 with e1
    injection e1 with e1
    subst e1
    subst e3
    exact ⟨cur, hg, rfl, hb, h1, h2, h3, by rw [Nat.mul_one] at h4; exact h4⟩
set_option maxRecDepth 100000 in
set_option maxHeartbeats 400000 in
theorem sort_texts (ts : List T) (w : World) (base : Nat) (ok : Nat → Prop) (A : Option Addr) (n c : Nat) (h : text.R 9 w base ok (.slice A n c) ts) (hl : ts.length < 4611686018427387904) :
    Calls Try.prog 25 #[.slice A n c] w fun e w' => e = .returned (.tuple #[]) ∧ text.R 9 w' base ok (.slice A n c) (ts.mergeSort fun x y => decide (x ≤ y)) ∧ w.grownBy w' (Value.slice A n c).ownBlock := by
  by_cases hn : n = 0
  · subst hn
    have e : ts = [] := List.eq_nil_of_length_eq_zero (R_len h).1.symm
    subst e
    refine (Try.slices_Sort_string_none A c w).mono fun e w' he => ?_
    obtain ⟨he, rfl⟩ := he
    exact ⟨he, by rw [List.mergeSort_nil]; exact h, grown_of_below (Below.refl _ _) _⟩
  · obtain ⟨g, rfl, hg, -⟩ := R_plain h (by omega)
    obtain ⟨cur, hbase, hnl, hb, h1, h2, h3, h4⟩ := R_at_text h (by omega)
    subst hnl
    refine (Try.slices_Sort_string g 0 c ts w (holds_of_block hb h4) (Array.getElem?_eq_some_iff.1 hb).1 hl).mono fun e w' he => ?_
    obtain ⟨he, k, os, rfl⟩ := he
    refine ⟨he, ?_, grownBy_sorted _⟩
    have hm : (ts.mergeSort fun x y => decide (x ≤ y)).length = ts.length := by simp
    have ho := ownsRow_sorted (n := k) (os := os) (ts := ts.mergeSort fun x y => decide (x ≤ y)) hm hbase hb h1 h2 h3
    exact Kd.R_of_own (by rw [hm]; exact ho) h.1
set_option maxRecDepth 100000 in
set_option maxHeartbeats 400000 in
theorem compact_texts (ts : List T) (w : World) (base : Nat) (ok : Nat → Prop) (A : Option Addr) (n c : Nat) (h : text.R 9 w base ok (.slice A n c) ts) (hl : ts.length < 4611686018427387904) :
    Calls Try.prog 26 #[.slice A n c] w fun e w' => e = .returned (.slice A (Go.Lib.compact ts).length c) ∧ text.R 9 w' base ok (.slice A (Go.Lib.compact ts).length c) (Go.Lib.compact ts) ∧ w.grownBy w' (Value.slice A n c).ownBlock := by
  by_cases hn : n = 0
  · subst hn
    have e : ts = [] := List.eq_nil_of_length_eq_zero (R_len h).1.symm
    subst e
    refine (Try.slices_Compact_string_empty A c w).mono fun e w' he => ?_
    obtain ⟨he, rfl⟩ := he
    exact ⟨he, h, grown_of_below (Below.refl _ _) _⟩
  · obtain ⟨g, rfl, hg, -⟩ := R_plain h (by omega)
    obtain ⟨cur, hbase, hnl, hb, h1, h2, h3, h4⟩ := R_at_text h (by omega)
    subst hnl
    refine (Try.slices_Compact_string g 0 c ts w (holds_of_block hb h4) (by omega) h1).mono fun e w' he => ?_
    obtain ⟨he, k, rfl⟩ := he
    have hle := Go.Lib.compact_length_le ts
    have hm : (Go.Lib.compact ts ++ List.replicate (ts.length - (Go.Lib.compact ts).length) ([] : T)).length = ts.length := by rw [List.length_append, List.length_replicate]; omega
    have ho := ownsRow_sorted (n := k) (os := #[]) (ts := Go.Lib.compact ts ++ List.replicate (ts.length - (Go.Lib.compact ts).length) ([] : T)) hm hbase hb h1 h2 h3
    rw [Sort.grow_empty] at ho
    have hR : text.R 9 _ base ok (.slice (some ⟨g, 0, none⟩) ts.length c) _ := Kd.R_of_own (by rw [hm]; exact ho) h.1
    have hR2 := Kd.R_take hR (m := (Go.Lib.compact ts).length) (by rw [hm]; exact hle)
    rw [List.take_left] at hR2
    refine ⟨he, hR2, ?_⟩
    have hg2 := grownBy_sorted (w := w) (g := g) (n := k) (os := #[]) (Go.Lib.compact ts ++ List.replicate (ts.length - (Go.Lib.compact ts).length) ([] : T)).toArray
    rw [Sort.grow_empty] at hg2
    exact hg2
end Go.Proofs.Ytomgfhapmhagnaa.Txt
end

section
namespace Go.Proofs.Ytomgfhapmhagnaa.Txt
set_option linter.unusedVariables false
set_option linter.unusedSimpArgs false
open Go.RowKit Go.Proofs.YtomgfhapmhagnaaW.PrintWords Go.Proofs.YtomgfhapmhagnaaW.PrintLast Go.Proofs.YtomgfhapmhagnaaW.PrintMore Go.Proofs.Ytomgfhapmhagnaa.Lib
set_option maxRecDepth 100000 in
set_option maxHeartbeats 800000 in
theorem search_calls (n : Nat) (w : World) (fn : Nat) (fd : Func) (cap : Array Value) (hf : Try.prog.funcs[fn]? = some fd) (hname : (fd.name == "runtime.NumGoroutine") = false) (hbody : fd.body.isSome = true) (hn : n ≤ 4611686018427387904)
    (p : Nat → Bool) (hword : ∀ (i : Nat) (w' : World), i < n → Below w.heap.size w w' → Calls Try.prog fn (#[] ++ #[.int .i64 i] ++ cap) w' fun e w'' => e = .returned (.bool (p i)) ∧ Drawn0 w' w'') (hm : ∀ i j, i ≤ j → j < n → p i = true → p j = true) :
    Calls Try.prog 30 #[.int .i64 n, .func (.func fn) #[] cap] w fun e w' => ∃ k : Nat, e = .returned (.int .i64 k) ∧ k ≤ n ∧ (∀ i, i < k → p i = false) ∧ (k < n → p k = true) ∧ Drawn0 w w' := by
  have HF := Aside0.mk hf
  have HNm := Aside0.mk hname
  have HBd := Aside0.mk hbody
  have HW := Aside0.mk hword
  have HM := Aside0.mk hm
  clear hf hname hbody hword hm
  go_enter Try.func30, Try.ntmps30
  go_wp2_with fail
  go_loopw [5, 6] (fun iv jv w' => ∃ i j : Nat, i ≤ j ∧ j ≤ n ∧ iv = .int .i64 i ∧ jv = .int .i64 j ∧ Aside0 (∀ q, q < i → p q = false) ∧ Aside0 (j < n → p j = true) ∧ Drawn0 w w') (fun iv jv _ => (intOf jv).toNat - (intOf iv).toNat)
  case atStart => exact ⟨0, n, Nat.zero_le _, Nat.le_refl _, rfl, rfl, ⟨fun q h => by omega⟩, ⟨fun h => by omega⟩, Drawn0.refl _⟩
  case round =>
    obtain ⟨i, j, hij, hjn, rfl, rfl, HI, HJ, HD⟩ := hrel
    by_cases hlt : i < j
    · obtain ⟨h, hh⟩ : ∃ h, h = (i + j) / 2 := ⟨_, rfl⟩
      have hhi : ((i : Int) + (j : Int)) / 2 = (h : Int) := by omega
      have hwu : IntKind.u64.wrap ((i : Int) + (j : Int)) = (i : Int) + (j : Int) := wraps_u64 _ (by omega) (by omega)
      have hwh : wrap64 (h : Int) = (h : Int) := IntWalk.wrap64_in _ (by omega)
      have h1 : i ≤ h := by omega
      have h2 : h < j := by omega
      have HC := Aside0.mk (HW.out h wr (by omega) HD.below)
      have HDr := Aside0.mk HD
      clear hh HD
      obtain ⟨b, hb⟩ : ∃ b, p h = b := ⟨_, rfl⟩
      have HPb := Aside0.mk hb
      rw [hb] at HC
      clear hb
      go_wp2_with (first
        | ((with_reducible refine gate_dst (N := 20) rfl ?_); refine goesLv_ (some 20) rfl rfl HF.out HNm.out HBd.out #[.int .i64 h] rfl rfl (by simp only [List.map_toArray, List.map_cons, List.map_nil]; rfl) ?_; with_reducible refine HC.out.mono ?_; rintro e w3 ⟨rfl, hd⟩; refine ⟨_, rfl, ?_⟩; have HD3 : Aside0 (Drawn0 w w3) := ⟨by obtain ⟨x, hx⟩ := HDr.out.out; obtain ⟨y, hy⟩ := hd.out; subst hx; subst hy; exact (HDr.out.step y)⟩; clear hd; cases b)
        | fail)
      · go_roundw
        case rel => exact ⟨h + 1, j, by omega, hjn, by go_num, rfl, ⟨fun q hq => by
          cases hp : p q with
          | false => rfl
          | true => exact absurd (HM.out q h (by omega) (by omega) hp) (by rw [HPb.out]; simp)⟩, HJ, HD3.out⟩
        case measure => simp [intOf]; omega
      · go_roundw
        case rel => exact ⟨i, h, by omega, by omega, rfl, rfl, HI, ⟨fun _ => HPb.out⟩, HD3.out⟩
        case measure => simp [intOf]; omega
    · obtain rfl : i = j := by omega
      have HDr := Aside0.mk HD
      clear HD
      go_wp2_with fail
      go_ret
      exact ⟨i, rfl, hjn, HI.out, HJ.out, HDr.out⟩
end Go.Proofs.Ytomgfhapmhagnaa.Txt
end

section
namespace Go.Proofs.Ytomgfhapmhagnaa.Txt
set_option linter.unusedVariables false
set_option linter.unusedSimpArgs false
open Go.RowKit Go.Proofs.YtomgfhapmhagnaaW.PrintWords Go.Proofs.YtomgfhapmhagnaaW.PrintLast Go.Proofs.YtomgfhapmhagnaaW.PrintMore Go.Proofs.Ytomgfhapmhagnaa.Lib
def DictAt (w : World) (g : Nat) (l : List T) : Prop := ∃ A c, w.cell? ⟨g, 0, none⟩ = some (.slice A l.length c) ∧ text.C w A l.length l ∧ l.length ≤ c
theorem DictAt.below {w w' : World} {g : Nat} {l : List T} (h : DictAt w g l) (hb : Below w.heap.size w w') : DictAt w' g l := by
  obtain ⟨A, c, h1, h2, h3⟩ := h
  exact ⟨A, c, pw_cell_below hb h1, Kd.C_below h2 hb, h3⟩
set_option maxRecDepth 100000 in
set_option maxHeartbeats 400000 in
theorem long_word (s : ByteArray) (w : World) :
    Calls Try.prog 23 #[.string s] w fun e w' => e = .returned (.bool (decide (64 < s.size))) ∧ w = w' := by
  have HD : Aside0 (decide ((64 : Int) < (s.size : Int)) = decide (64 < s.size)) := ⟨by rw [Bool.eq_iff_iff, decide_eq_true_iff, decide_eq_true_iff]; omega⟩
  by_cases h : 64 < s.size
  · have h2 : decide (64 < s.size) = true := decide_eq_true h
    rw [h2]
    have h3 : decide ((64 : Int) < (s.size : Int)) = true := decide_eq_true (by omega)
    clear h h2
    go_enter Try.func23, Try.ntmps23
    go_wp2_with fail
    go_ret
    exact ⟨rfl, rfl⟩
  · have h2 : decide (64 < s.size) = false := decide_eq_false h
    rw [h2]
    have h3 : decide ((64 : Int) < (s.size : Int)) = false := decide_eq_false (by omega)
    clear h h2
    go_enter Try.func23, Try.ntmps23
    go_wp2_with fail
    go_ret
    exact ⟨rfl, rfl⟩
def tooLong (ts : List T) : Bool := ts.any fun t => decide (64 < t.length)
set_option maxRecDepth 100000 in
set_option maxHeartbeats 400000 in
theorem index_long (ts : List T) (A : Option Addr) (n c : Nat) (w : World) (hC : text.C w A n ts) :
    Calls Try.prog 47 #[.slice A n c, .func (.func 23) #[] #[]] w fun e w' => (∃ k : Int, e = .returned (.int .i64 k) ∧ decide (0 ≤ k) = tooLong ts) ∧ w = w' := by
  have HC := Aside0.mk hC
  have HLen := Aside0.mk (show ts.length = n from hC.1)
  have hn := hC.2.1
  clear hC
  go_enter Try.func47, Try.ntmps47
  go_wp2_with fail
  go_loop [8] (fun kv => ∃ k : Nat, k ≤ n ∧ kv = .int .i64 k ∧ Aside0 (tooLong (ts.take k) = false)) (fun kv => n - (intOf kv).toNat)
  case atStart => exact ⟨0, Nat.zero_le _, rfl, ⟨by simp [tooLong]⟩⟩
  case round =>
    obtain ⟨k, hk, rfl, HT⟩ := hrel
    by_cases hlt : k < n
    · obtain ⟨ad, e, hcell⟩ := at_text HC.out k hlt
      subst e
      have HL := Aside0.mk (show tooLong (ts.take (k + 1)) = decide (64 < (bs (ts.getD k [])).size) by
        rw [List.take_succ_eq_append_getElem (by rw [HLen.out]; exact hlt)]
        have h := HT.out
        unfold tooLong at h ⊢
        rw [List.any_append, h, List.getD_eq_getElem?_getD, List.getElem?_eq_getElem (by rw [HLen.out]; exact hlt)]
        simp [bs_size]
        rfl)
      have HA := Aside0.mk (show tooLong (ts.take (k + 1)) = true → tooLong ts = true by
        unfold tooLong
        intro h
        rw [List.any_eq_true] at h ⊢
        obtain ⟨x, hx, h⟩ := h
        exact ⟨x, List.mem_of_mem_take hx, h⟩)
      generalize bs (ts.getD k []) = s at *
      go_wp2_with fail
      refine (long_word s w).mono ?_
      rintro e w1 ⟨rfl, rfl⟩
      rw [← HL.out]
      obtain ⟨b, hb⟩ : ∃ b, tooLong (ts.take (k + 1)) = b := ⟨_, rfl⟩
      rw [hb] at HL HA ⊢
      have HT2 := Aside0.mk hb
      clear hb HT
      cases b
      · go_wp2_with fail
        go_round
        case rel => exact ⟨k + 1, by omega, by go_num, HT2⟩
        case measure => simp [intOf]; omega
      · go_wp2_with fail
        go_ret
        exact ⟨⟨(k : Int), rfl, by rw [HA.out (by trivial)]; exact decide_eq_true (by omega)⟩, rfl⟩
    · obtain rfl : k = n := by omega
      have HE := Aside0.mk (show tooLong ts = false by have h := HT.out; rw [← HLen.out, List.take_length] at h; exact h)
      go_wp2_with fail
      go_ret
      exact ⟨⟨-1, rfl, by rw [HE.out]; rfl⟩, rfl⟩
set_option maxRecDepth 100000 in
set_option maxHeartbeats 400000 in
theorem contains_long (ts : List T) (A : Option Addr) (n c : Nat) (w : World) (hC : text.C w A n ts) :
    Calls Try.prog 22 #[.slice A n c, .func (.func 23) #[] #[]] w fun e w' => e = .returned (.bool (tooLong ts)) ∧ w = w' := by
  have H := Aside0.mk (index_long ts A n c w hC)
  clear hC
  go_enter Try.func22, Try.ntmps22
  go_wp2_with fail
  refine H.out.mono ?_
  rintro e w1 ⟨⟨k, rfl, hk⟩, rfl⟩
  have HK := Aside0.mk hk
  clear hk
  go_wp2_with fail
  go_ret
  exact ⟨by rw [← HK.out]; rfl, rfl⟩
def build (ts : List T) : Option (List T) := if tooLong ts then none else if 4096 < (built ts).length then none else some (built ts)
set_option maxRecDepth 100000 in
set_option maxHeartbeats 1600000 in
theorem build_calls (ts : List T) (A : Option Addr) (n c : Nat) (w : World) (hC : text.C w A n ts) (hl : ts.length * 16 ≤ 140737488355328) :
    Calls Try.prog 10 #[.slice A n c] w fun e w' => (match build ts with
      | none => e = .returned (.tuple #[.pointer none, .int .i64 1])
      | some l => ∃ g, e = .returned (.tuple #[.pointer (some ⟨g, 0, none⟩), .int .i64 0]) ∧ w.heap.size ≤ g ∧ DictAt w' g l) ∧ Below w.heap.size w w' := by
  have HC := Aside0.mk hC
  have H := Aside0.mk (contains_long ts A n c w hC)
  have HL := Aside0.mk hl
  clear hC
  unfold build
  cases htl : tooLong ts
  case true =>
    rw [htl] at H
    simp only [if_true]
    clear htl
    go_enter Try.func10, Try.ntmps10
    go_wp2_with fail
    refine H.out.mono ?_
    rintro e w1 ⟨rfl, rfl⟩
    go_wp2_with fail
    go_ret2
    exact ⟨rfl, Below.refl _ _⟩
  case false =>
    rw [htl] at H
    simp only [Bool.false_eq_true, if_false]
    clear htl
    have HBu := Aside0.mk (show Go.Lib.compact (ts.mergeSort fun x y => decide (x ≤ y)) = built ts from rfl)
    by_cases hbig : 4096 < (built ts).length
    · rw [if_pos hbig]
      simp only
      go_enter Try.func10, Try.ntmps10
      go_wp2_with fail
      refine H.out.mono ?_
      rintro e w1 ⟨rfl, rfl⟩
      go_wp2_with fail
      refine (clone_texts ts n A c w HC.out HL.out).mono ?_
      rintro e w1 ⟨v, rfl, ho, hb⟩
      obtain ⟨A1, c1, rfl, -, -⟩ := Kd.R_reads ho
      have HO1 := Aside0.mk ho
      have HB1 := Aside0.mk hb
      clear ho hb
      go_wp2_with fail
      refine (sort_texts ts w1 w.heap.size (fun _ => True) A1 _ c1 HO1.out (by have := HL.out; omega)).mono ?_
      rintro e w2 ⟨rfl, ho, hg⟩
      have HB2 := Aside0.mk (pw_below_grown HB1.out _ HB1.out.size hg (fun k hk => Kd.R_base HO1.out k hk))
      have HO2 := Aside0.mk ho
      have HS2 := Aside0.mk (show (ts.mergeSort fun x y => decide (x ≤ y)).length = ts.length by simp)
      clear ho hg HO1 HB1
      go_wp2_with fail
      refine (compact_texts _ w2 w.heap.size (fun _ => True) A1 _ c1 HO2.out (by have := HL.out; rw [HS2.out]; omega)).mono ?_
      rintro e w3 ⟨rfl, ho, hg⟩
      have HB3 := Aside0.mk (pw_below_grown HB2.out _ HB2.out.size hg (fun k hk => Kd.R_base HO2.out k hk))
      rw [HBu.out] at ho ⊢
      have hbi : (4096 : Int) < ((built ts).length : Int) := by omega
      generalize built ts = bl at *
      clear ho hg HO2 HB2
      go_wp2_with fail
      go_ret2
      exact ⟨rfl, HB3.out⟩
    · rw [if_neg hbig]
      simp only
      go_enter Try.func10, Try.ntmps10
      go_wp2_with fail
      refine H.out.mono ?_
      rintro e w1 ⟨rfl, rfl⟩
      go_wp2_with fail
      refine (clone_texts ts n A c w HC.out HL.out).mono ?_
      rintro e w1 ⟨v, rfl, ho, hb⟩
      obtain ⟨A1, c1, rfl, -, -⟩ := Kd.R_reads ho
      have HO1 := Aside0.mk ho
      have HB1 := Aside0.mk hb
      clear ho hb
      go_wp2_with fail
      refine (sort_texts ts w1 w.heap.size (fun _ => True) A1 _ c1 HO1.out (by have := HL.out; omega)).mono ?_
      rintro e w2 ⟨rfl, ho, hg⟩
      have HB2 := Aside0.mk (pw_below_grown HB1.out _ HB1.out.size hg (fun k hk => Kd.R_base HO1.out k hk))
      have HO2 := Aside0.mk ho
      have HS2 := Aside0.mk (show (ts.mergeSort fun x y => decide (x ≤ y)).length = ts.length by simp)
      clear ho hg HO1 HB1
      go_wp2_with fail
      refine (compact_texts _ w2 w.heap.size (fun _ => True) A1 _ c1 HO2.out (by have := HL.out; rw [HS2.out]; omega)).mono ?_
      rintro e w3 ⟨rfl, ho, hg⟩
      have HB3 := Aside0.mk (pw_below_grown HB2.out _ HB2.out.size hg (fun k hk => Kd.R_base HO2.out k hk))
      rw [HBu.out] at ho ⊢
      have hbi : ((built ts).length : Int) ≤ 4096 := by omega
      clear hbig HBu
      obtain ⟨bl, hbl⟩ : ∃ bl, built ts = bl := ⟨_, rfl⟩
      rw [hbl] at ho hbi ⊢
      have HO3 := Aside0.mk ho
      have HBl := Aside0.mk hbl
      clear ho hg HO2 HB2 hbl
      go_wp2_with fail
      go_ret2
      obtain ⟨A4, c4, e4, h4, hC4⟩ := Kd.R_reads HO3.out
      injection e4 with e5 e6 e7
      subst e5
      subst e7
      rw [HBl.out]
      exact ⟨⟨w3.heap.size, rfl, HB3.out.size, A1, c1, by go_simp, Kd.C_below hC4 (below_alloc (Below.refl _ _) _), h4⟩, HB3.out.alloc HB3.out.size _⟩
set_option maxRecDepth 100000 in
set_option maxHeartbeats 400000 in
theorem len_calls (w : World) (g : Nat) (l : List T) (hs : DictAt w g l) :
    Calls Try.prog 15 #[.pointer (some ⟨g, 0, none⟩)] w fun e w' => e = .returned (.int .i64 l.length) ∧ w = w' := by
  obtain ⟨A, c, h1, -, -⟩ := hs
  go_enter Try.func15, Try.ntmps15
  go_wp2_with fail
  go_ret
  exact ⟨rfl, rfl⟩
set_option maxRecDepth 100000 in
set_option maxHeartbeats 400000 in
theorem text_no (w : World) (g : Nat) (l : List T) (hs : DictAt w g l) (i : Int) (h : i < 0 ∨ (l.length : Int) ≤ i) :
    Calls Try.prog 14 #[.pointer (some ⟨g, 0, none⟩), .int .i64 i] w fun e w' => e = .returned (.tuple #[.string .empty, .bool false]) ∧ w = w' := by
  have HS := Aside0.mk hs
  clear hs
  by_cases h0 : i < 0
  · clear h
    go_enter Try.func14, Try.ntmps14
    go_wp2_with fail
    go_ret2
    exact ⟨rfl, rfl⟩
  · have h1 : (l.length : Int) ≤ i := by omega
    have h2 : (0 : Int) ≤ i := by omega
    clear h h0
    go_enter Try.func14, Try.ntmps14
    go_wp2_with fail
    refine (len_calls w g l HS.out).mono ?_
    rintro e w1 ⟨rfl, rfl⟩
    go_wp2_with fail
    go_ret2
    exact ⟨rfl, rfl⟩
set_option maxRecDepth 100000 in
set_option maxHeartbeats 400000 in
theorem text_calls (w : World) (g : Nat) (l : List T) (hs : DictAt w g l) (i : Nat) (h : i < l.length) :
    Calls Try.prog 14 #[.pointer (some ⟨g, 0, none⟩), .int .i64 i] w fun e w' => e = .returned (.tuple #[.string (bs (l.getD i [])), .bool true]) ∧ w = w' := by
  have HS := Aside0.mk hs
  obtain ⟨A, c, c0, hC, hc⟩ := hs
  obtain ⟨ad, e, hcell⟩ := at_text hC i h
  subst e
  have hi : (i : Int) < (l.length : Int) := by omega
  have hL := hC.2.1
  clear hC
  (obtain ⟨s, hgen⟩ : ∃ s, bs (l.getD i []) = s := ⟨_, rfl⟩; try rw [hgen] at hcell; try rw [hgen]; have HG_s := Aside0.mk hgen; clear hgen)
  go_enter Try.func14, Try.ntmps14
  go_wp2_with fail
  refine (len_calls w g l HS.out).mono ?_
  rintro e w1 ⟨rfl, rfl⟩
  go_wp2_with fail
  go_ret2
  exact ⟨rfl, rfl⟩
set_option maxRecDepth 100000 in
set_option maxHeartbeats 400000 in
theorem from_word (w : World) (p q g : Nat) (l : List T) (s : ByteArray) (hp : w.cell? ⟨p, 0, none⟩ = some (.pointer (some ⟨g, 0, none⟩))) (hq : w.cell? ⟨q, 0, none⟩ = some (.string s)) (hs : DictAt w g l) (i : Nat) (h : i < l.length) :
    Calls Try.prog 33 #[.int .i64 i, .pointer (some ⟨p, 0, none⟩), .pointer (some ⟨q, 0, none⟩)] w fun e w' => e = .returned (.bool (!decide (l.getD i [] < s.data.toList))) ∧ Drawn0 w w' := by
  obtain ⟨A, c, c0, hC, hc⟩ := hs
  obtain ⟨ad, e, hcell⟩ := at_text hC i h
  subst e
  have hi : (i : Int) < (l.length : Int) := by omega
  have HE := Aside0.mk (less_is (bs (l.getD i [])) s)
  rw [bs_data] at HE
  clear hC
  rw [← HE.out]
  clear HE
  generalize bs (l.getD i []) = t at *
  go_enter Try.func33, Try.ntmps33
  go_wp2_with fail
  go_quiet (fail)
  go_wp2_with fail
  go_ret
  exact ⟨rfl, ⟨_, rfl⟩⟩
theorem mono_from {l : List T} (h : l.Pairwise (· < ·)) (s : T) (i j : Nat) (hij : i ≤ j) (hj : j < l.length) (hp : (!decide (l.getD i [] < s)) = true) : (!decide (l.getD j [] < s)) = true := by
  rw [Bool.not_eq_true', decide_eq_false_iff_not] at hp ⊢
  exact fun h2 => hp (lt_of_le_lt (rises_le h i j hij hj) h2)
set_option maxRecDepth 100000 in
set_option maxHeartbeats 800000 in
theorem from_calls (w : World) (g : Nat) (l : List T) (s : ByteArray) (hs : DictAt w g l) (hr : l.Pairwise (· < ·)) (hl : l.length ≤ 4611686018427387904) :
    Calls Try.prog 17 #[.pointer (some ⟨g, 0, none⟩), .string s] w fun e w' => e = .returned (.int .i64 (fromOf l s.data.toList : Nat)) ∧ Below w.heap.size w w' := by
  have HS := Aside0.mk hs
  have HR := Aside0.mk hr
  have HL := Aside0.mk hl
  clear hs hr hl
  have hmf : ∀ (fn : Fn) (first cap : Array Value) (w : World), (Instr.makeFunc fn first cap).run Try.prog w = .ok (.func fn first cap) w := fun _ _ _ _ => rfl
  go_enter Try.func17, Try.ntmps17
  go_wp2_with fail
  have hb1 : Below w.heap.size w ((w.alloc (.cells #[.pointer (some ⟨g, 0, none⟩)] 25)).alloc (.cells #[.string s] 9)) := ((Below.refl _ _).alloc (Nat.le_refl _) _).alloc (by simp) _
  have HS1 := Aside0.mk (HS.out.below hb1)
  have HB1 := Aside0.mk hb1
  have hp : ((w.alloc (.cells #[.pointer (some ⟨g, 0, none⟩)] 25)).alloc (.cells #[.string s] 9)).cell? ⟨w.heap.size, 0, none⟩ = some (.pointer (some ⟨g, 0, none⟩)) := by go_simp
  have hq : ((w.alloc (.cells #[.pointer (some ⟨g, 0, none⟩)] 25)).alloc (.cells #[.string s] 9)).cell? ⟨w.heap.size + 1, 0, none⟩ = some (.string s) := by go_simp
  clear hb1
  generalize ((w.alloc (.cells #[.pointer (some ⟨g, 0, none⟩)] 25)).alloc (.cells #[.string s] 9)) = w1 at *
  refine (len_calls w1 g l HS1.out).mono ?_
  rintro e w2 ⟨rfl, rfl⟩
  go_wp2_with fail
  refine (search_calls l.length w1 33 _ #[.pointer (some ⟨w.heap.size, 0, none⟩), .pointer (some ⟨w.heap.size + 1, 0, none⟩)] Try.func33 (by kernel_rfl) rfl HL.out (fun i => !decide (l.getD i [] < s.data.toList))
    (fun i w' hi hb => from_word w' _ _ g l s (pw_cell_below hb hp) (pw_cell_below hb hq) (HS1.out.below hb) i hi) (fun i j hij hj => mono_from HR.out _ i j hij hj)).mono ?_
  rintro e w2 ⟨k, rfl, hk, h1, h2, hd⟩
  have HE := Aside0.mk (fromOf_is l s.data.toList k hk (fun i hi => by have := h1 i hi; simpa using this) (fun h => by have := h2 h; simpa using this))
  have HB2 := Aside0.mk (below_then HB1.out HB1.out.size hd.below)
  clear h1 h2 hd
  go_wp2_with fail
  go_ret
  exact ⟨by rw [← HE.out]; rfl, HB2.out⟩
end Go.Proofs.Ytomgfhapmhagnaa.Txt
end

section
namespace Go.Proofs.Ytomgfhapmhagnaa.Txt
set_option linter.unusedVariables false
set_option linter.unusedSimpArgs false
open Go.RowKit Go.Proofs.YtomgfhapmhagnaaW.PrintWords Go.Proofs.YtomgfhapmhagnaaW.PrintLast Go.Proofs.YtomgfhapmhagnaaW.PrintMore Go.Proofs.Ytomgfhapmhagnaa.Lib
set_option maxRecDepth 100000 in
set_option maxHeartbeats 800000 in
theorem id_calls (w : World) (g : Nat) (l : List T) (s : ByteArray) (hs : DictAt w g l) (hr : l.Pairwise (· < ·)) (hl : l.length ≤ 4611686018427387904) :
    Calls Try.prog 13 #[.pointer (some ⟨g, 0, none⟩), .string s] w fun e w' => e = .returned (.tuple #[.int .i64 (if has l s.data.toList then fromOf l s.data.toList else 0 : Nat), .bool (has l s.data.toList)]) ∧ Below w.heap.size w w' := by
  have HS := Aside0.mk hs
  have HF := Aside0.mk (from_calls w g l s hs hr hl)
  have hfl := fromOf_le l s.data.toList
  clear hs hr
  by_cases hlt : fromOf l s.data.toList < l.length
  · by_cases heq : l.getD (fromOf l s.data.toList) [] = s.data.toList
    · have hh : has l s.data.toList = true := decide_eq_true ⟨hlt, heq⟩
      rw [hh, if_pos rfl]
      have HT := fun (w' : World) (hb : DictAt w' g l) => text_calls w' g l hb (fromOf l s.data.toList) hlt
      rw [heq, bs_of] at HT
      have HT := Aside0.mk HT
      clear hh heq hlt hfl
      (obtain ⟨k, hgen⟩ : ∃ k, fromOf l s.data.toList = k := ⟨_, rfl⟩; try rw [hgen] at HF HT; try rw [hgen]; have HG_k := Aside0.mk hgen; clear hgen)
      go_enter Try.func13, Try.ntmps13
      go_wp2_with fail
      refine HF.out.mono ?_
      rintro e w1 ⟨rfl, hb⟩
      have HB := Aside0.mk hb
      have HS1 := Aside0.mk (HS.out.below hb)
      clear hb
      go_wp2_with fail
      refine (HT.out w1 HS1.out).mono ?_
      rintro e w2 ⟨rfl, rfl⟩
      go_wp2_with fail
      go_ret2
      exact ⟨rfl, HB.out⟩
    · have hh : has l s.data.toList = false := decide_eq_false (fun h => heq h.2)
      rw [hh]
      simp only [Bool.false_eq_true, if_false]
      have HT := Aside0.mk (fun (w' : World) (hb : DictAt w' g l) => text_calls w' g l hb (fromOf l s.data.toList) hlt)
      have hne : ((bs (l.getD (fromOf l s.data.toList) [])).toList == s.toList) = false := by
        rw [beq_eq_false_iff_ne, ByteArray.toList_eq, ByteArray.toList_eq, bs_data]; exact heq
      clear hh heq hlt hfl
      generalize bs (l.getD (fromOf l s.data.toList) []) = a at *
      generalize fromOf l s.data.toList = k at *
      go_enter Try.func13, Try.ntmps13
      go_wp2_with fail
      refine HF.out.mono ?_
      rintro e w1 ⟨rfl, hb⟩
      have HB := Aside0.mk hb
      have HS1 := Aside0.mk (HS.out.below hb)
      clear hb
      go_wp2_with fail
      refine (HT.out w1 HS1.out).mono ?_
      rintro e w2 ⟨rfl, rfl⟩
      go_wp2_with fail
      go_ret2
      exact ⟨rfl, HB.out⟩
  · have hh : has l s.data.toList = false := decide_eq_false (fun h => hlt h.1)
    rw [hh]
    simp only [Bool.false_eq_true, if_false]
    have HT := Aside0.mk (fun (w' : World) (hb : DictAt w' g l) => text_no w' g l hb (fromOf l s.data.toList : Nat) (.inr (by omega)))
    clear hh hlt hfl
    generalize fromOf l s.data.toList = k at *
    go_enter Try.func13, Try.ntmps13
    go_wp2_with fail
    refine HF.out.mono ?_
    rintro e w1 ⟨rfl, hb⟩
    have HB := Aside0.mk hb
    have HS1 := Aside0.mk (HS.out.below hb)
    clear hb
    go_wp2_with fail
    refine (HT.out w1 HS1.out).mono ?_
    rintro e w2 ⟨rfl, rfl⟩
    go_wp2_with fail
    go_ret2
    exact ⟨rfl, HB.out⟩
theorem hasPrefix_is (s p : T) : Go.Lib.hasPrefix s p = begins s p := rfl
def runOf (l : List T) (p : T) : Nat := ((l.drop (fromOf l p)).takeWhile fun t => begins t p).length
set_option maxRecDepth 100000 in
set_option maxHeartbeats 400000 in
theorem begin_word (w : World) (p q r g lo : Nat) (l : List T) (s : ByteArray) (hp : w.cell? ⟨p, 0, none⟩ = some (.pointer (some ⟨g, 0, none⟩))) (hr : w.cell? ⟨r, 0, none⟩ = some (.int .i64 lo)) (hq : w.cell? ⟨q, 0, none⟩ = some (.string s)) (hs : DictAt w g l) (i : Nat) (h : lo + i < l.length) (hl : l.length ≤ 4611686018427387904) :
    Calls Try.prog 31 #[.int .i64 i, .pointer (some ⟨p, 0, none⟩), .pointer (some ⟨r, 0, none⟩), .pointer (some ⟨q, 0, none⟩)] w fun e w' => e = .returned (.bool (!begins (l.getD (lo + i) []) s.data.toList)) ∧ Drawn0 w w' := by
  obtain ⟨A, c, c0, hC, hc⟩ := hs
  obtain ⟨ad, e, hcell⟩ := at_text hC (lo + i) h
  subst e
  have hi : ((lo + i : Nat) : Int) < (l.length : Int) := by omega
  obtain ⟨j, hj⟩ : ∃ j, j = lo + i := ⟨_, rfl⟩
  rw [← hj] at hcell hi ⊢
  have hsum : IntKind.i64.wrap ((lo : Int) + (i : Int)) = (j : Int) := by rw [IntKind.wrap_i64]; omega
  have hsum2 : wrap64 ((lo : Int) + (i : Int)) = (j : Int) := by rw [IntWalk.wrap64_in _ (by omega)]; omega
  have hj0 : (0 : Int) ≤ (j : Int) := Int.natCast_nonneg j
  have HP := Aside0.mk (fun w => Try.strings_HasPrefix (bs (l.getD j [])) s w)
  rw [bs_data, hasPrefix_is] at HP
  clear hC hj h
  generalize begins (l.getD j []) s.data.toList = b at *
  generalize bs (l.getD j []) = t at *
  go_enter Try.func31, Try.ntmps31
  go_wp2_with fail
  refine start_ (n := 13) (S := fun w' => w'.cell? ⟨p, 0, none⟩ = some (.pointer (some ⟨g, 0, none⟩)) ∧ w'.cell? ⟨g, 0, none⟩ = some (.slice (some ad) l.length c) ∧ w'.cell? ⟨r, 0, none⟩ = some (.int .i64 lo) ∧ w'.cell? (ad.add j) = some (.string t) ∧ w'.cell? ⟨q, 0, none⟩ = some (.string s)) (ds := []) #[false, false, false, false, false, false, false, false, false, false, false, false, false] (by kernel_rfl) rfl rfl ⟨hp, c0, hr, hcell, hq⟩ (fun hHeld => ?_)
  refine pure_ (i := 5) (N := some 11) (v := ?_) (a' := ?_) #[false, false, false, false, false, true, false, false, false, false, false, false, false] rfl rfl (by kernel_rfl) (fun _ _ _ h => h) (Or.inl ⟨by rfl, ?_⟩) ?_ ?_
  rotate_left
  · intro w'
    go_simp
    with_reducible rfl
  rotate_left
  · simp only [Act.put, List.setIfInBounds_toArray, List.set_cons_zero, List.set_cons_succ, i64_w, i32_w]
    rfl
  refine take_ (i := 0) (N := some 6) (v := ?_) (a' := ?_) #[true, false, false, false, false, true, false, false, false, false, false, false, false] rfl rfl (by kernel_rfl) (fun _ _ _ h => h) (Or.inl ⟨by rfl, ?_⟩) hHeld ?_ ?_
  rotate_left
  · rintro w' ⟨s0, s1, s2, s3, s4⟩
    go_simp
    with_reducible rfl
  rotate_left
  · simp only [Act.put, List.setIfInBounds_toArray, List.set_cons_zero, List.set_cons_succ, i64_w, i32_w]
    rfl
  refine pure_ (i := 1) (N := some 7) (v := ?_) (a' := ?_) #[true, true, false, false, false, true, false, false, false, false, false, false, false] rfl rfl (by kernel_rfl) (fun _ _ _ h => h) (Or.inl ⟨by rfl, ?_⟩) ?_ ?_
  rotate_left
  · intro w'
    go_simp
    with_reducible rfl
  rotate_left
  · simp only [Act.put, List.setIfInBounds_toArray, List.set_cons_zero, List.set_cons_succ, i64_w, i32_w]
    rfl
  refine pure_ (i := 2) (N := some 8) (v := ?_) (a' := ?_) #[true, true, true, false, false, true, false, false, false, false, false, false, false] rfl rfl (by kernel_rfl) (fun _ _ _ h => h) (Or.inl ⟨by rfl, ?_⟩) ?_ ?_
  rotate_left
  · intro w'
    go_simp
    with_reducible rfl
  rotate_left
  · simp only [Act.put, List.setIfInBounds_toArray, List.set_cons_zero, List.set_cons_succ, i64_w, i32_w]
    rfl
  refine take_ (i := 3) (N := some 9) (v := ?_) (a' := ?_) #[true, true, true, true, false, true, false, false, false, false, false, false, false] rfl rfl (by kernel_rfl) (fun _ _ _ h => h) (Or.inl ⟨by rfl, ?_⟩) hHeld ?_ ?_
  rotate_left
  · rintro w' ⟨s0, s1, s2, s3, s4⟩
    go_simp
    with_reducible rfl
  rotate_left
  · simp only [Act.put, List.setIfInBounds_toArray, List.set_cons_zero, List.set_cons_succ, i64_w, i32_w]
    rfl
  refine take_ (i := 4) (N := some 10) (v := ?_) (a' := ?_) #[true, true, true, true, true, true, false, false, false, false, false, false, false] rfl rfl (by kernel_rfl) (fun _ _ _ h => h) (Or.inl ⟨by rfl, ?_⟩) hHeld ?_ ?_
  rotate_left
  · rintro w' ⟨s0, s1, s2, s3, s4⟩
    go_simp
    with_reducible rfl
  rotate_left
  · simp only [Act.put, List.setIfInBounds_toArray, List.set_cons_zero, List.set_cons_succ, i64_w, i32_w]
    rfl
  refine pure_ (i := 6) (N := some 12) (v := ?_) (a' := ?_) #[true, true, true, true, true, true, true, false, false, false, false, false, false] rfl rfl (by kernel_rfl) (fun _ _ _ h => h) (Or.inl ⟨by rfl, ?_⟩) ?_ ?_
  rotate_left
  · intro w'
    go_simp
    with_reducible rfl
  rotate_left
  · simp only [Act.put, List.setIfInBounds_toArray, List.set_cons_zero, List.set_cons_succ, i64_w, i32_w]
    rfl
  refine pure_ (i := 7) (N := some 13) (v := ?_) (a' := ?_) #[true, true, true, true, true, true, true, true, false, false, false, false, false] rfl rfl (by kernel_rfl) (fun _ _ _ h => h) (Or.inl ⟨by rfl, ?_⟩) ?_ ?_
  rotate_left
  · intro w'
    go_simp
    with_reducible rfl
  rotate_left
  · simp only [Act.put, List.setIfInBounds_toArray, List.set_cons_zero, List.set_cons_succ, i64_w, i32_w]
    rfl
  refine take_ (i := 8) (N := some 14) (v := ?_) (a' := ?_) #[true, true, true, true, true, true, true, true, true, false, false, false, false] rfl rfl (by kernel_rfl) (fun _ _ _ h => h) (Or.inl ⟨by rfl, ?_⟩) hHeld ?_ ?_
  rotate_left
  · rintro w' ⟨s0, s1, s2, s3, s4⟩
    go_simp
    with_reducible rfl
  rotate_left
  · simp only [Act.put, List.setIfInBounds_toArray, List.set_cons_zero, List.set_cons_succ, i64_w, i32_w]
    rfl
  refine take_ (i := 9) (N := some 15) (v := ?_) (a' := ?_) #[true, true, true, true, true, true, true, true, true, true, false, false, false] rfl rfl (by kernel_rfl) (fun _ _ _ h => h) (Or.inl ⟨by rfl, ?_⟩) hHeld ?_ ?_
  rotate_left
  · rintro w' ⟨s0, s1, s2, s3, s4⟩
    go_simp
    with_reducible rfl
  rotate_left
  · simp only [Act.put, List.setIfInBounds_toArray, List.set_cons_zero, List.set_cons_succ, i64_w, i32_w]
    rfl
  refine one_ (i := 10) (N := some 16) #[true, true, true, true, true, true, true, true, true, true, true, false, false] rfl rfl (by kernel_rfl) (by decide) (fun K hK => ?_)
  refine goes_ Try.func32 (by kernel_rfl) rfl #[.string t, .string s] (by rfl) rfl rfl (by simp only [List.map_toArray, List.map_cons, List.map_nil]; rfl) ?_
  with_reducible refine (HP.out _).mono ?_
  rintro e w3 ⟨rfl, rfl⟩
  refine ⟨_, rfl, ?_⟩
  refine hK.out _ _ ⟨hHeld.1, hHeld.2.1, hHeld.2.2.1, hHeld.2.2.2.1, hHeld.2.2.2.2⟩ (fun hHeld => ?_)
  clear hK K
  refine norm_ (a' := ?_) ?_ ?_
  rotate_left
  · show Act.put _ (some 16) _ = _
    simp only [Act.put, List.setIfInBounds_toArray, List.set_cons_zero, List.set_cons_succ, i64_w, i32_w]
    rfl
  refine pure_ (i := 11) (N := some 17) (v := ?_) (a' := ?_) #[true, true, true, true, true, true, true, true, true, true, true, true, false] rfl rfl (by kernel_rfl) (fun _ _ _ h => h) (Or.inl ⟨by rfl, ?_⟩) ?_ ?_
  rotate_left
  · intro w'
    go_simp
    with_reducible rfl
  rotate_left
  · simp only [Act.put, List.setIfInBounds_toArray, List.set_cons_zero, List.set_cons_succ, i64_w, i32_w]
    rfl
  refine pure_ (i := 12) (N := some 5) (v := ?_) (a' := ?_) #[true, true, true, true, true, true, true, true, true, true, true, true, true] rfl rfl (by kernel_rfl) (fun _ _ _ h => h) (Or.inl ⟨by rfl, ?_⟩) ?_ ?_
  rotate_left
  · intro w'
    go_simp
    with_reducible rfl
  rotate_left
  · simp only [Act.put, List.setIfInBounds_toArray, List.set_cons_zero, List.set_cons_succ, i64_w, i32_w]
    rfl
  refine done_ (by kernel_rfl) ?_
  go_wp2_with fail
  go_ret
  exact ⟨rfl, ⟨1, rfl⟩⟩
theorem run_at (p : T) : ∀ (l : List T) (i : Nat), i < (l.takeWhile fun t => begins t p).length → begins (l.getD i []) p = true
  | [], i, h => by simp at h
  | x :: l, i, h => by
    rw [List.takeWhile_cons] at h
    split at h
    · rename_i hx
      rcases i with _ | i
      · exact hx
      · exact run_at p l i (by simpa using h)
    · simp at h
theorem run_not (p : T) : ∀ (l : List T), (l.takeWhile fun t => begins t p).length < l.length → begins (l.getD (l.takeWhile fun t => begins t p).length []) p = false
  | [], h => by simp at h
  | x :: l, h => by
    rw [List.takeWhile_cons] at h ⊢
    by_cases hx : begins x p = true
    · rw [if_pos hx] at h ⊢
      simpa using run_not p l (by simpa using h)
    · rw [if_neg hx]; simpa using hx
theorem run_is (l : List T) (p : T) (k : Nat) (h1 : fromOf l p + k ≤ l.length) (h2 : ∀ i, i < k → begins (l.getD (fromOf l p + i) []) p = true) (h3 : fromOf l p + k < l.length → begins (l.getD (fromOf l p + k) []) p = false) : k = runOf l p := by
  have hd : ∀ i, (l.drop (fromOf l p)).getD i [] = l.getD (fromOf l p + i) [] := fun i => by
    rw [List.getD_eq_getElem?_getD, List.getElem?_drop, List.getD_eq_getElem?_getD]
  have hlen : (l.drop (fromOf l p)).length = l.length - fromOf l p := List.length_drop
  unfold runOf
  have hle : ((l.drop (fromOf l p)).takeWhile fun t => begins t p).length ≤ (l.drop (fromOf l p)).length := (List.takeWhile_prefix _).length_le
  rcases Nat.lt_trichotomy k ((l.drop (fromOf l p)).takeWhile fun t => begins t p).length with h | h | h
  · have e1 := run_at p _ k h
    rw [hd, h3 (by omega)] at e1
    cases e1
  · exact h
  · have e1 := run_not p (l.drop (fromOf l p)) (by omega)
    rw [hd, h2 _ h] at e1
    cases e1
theorem runOf_le (l : List T) (p : T) : fromOf l p + runOf l p ≤ l.length := by
  have h1 : ((l.drop (fromOf l p)).takeWhile fun t => begins t p).length ≤ (l.drop (fromOf l p)).length := (List.takeWhile_prefix _).length_le
  have h2 := fromOf_le l p
  rw [List.length_drop] at h1
  unfold runOf
  omega
theorem mono_run {l : List T} (h : l.Pairwise (· < ·)) (p : T) (i j : Nat) (hij : i ≤ j) (hj : fromOf l p + j < l.length) (hp : (!begins (l.getD (fromOf l p + i) []) p) = true) : (!begins (l.getD (fromOf l p + j) []) p) = true := by
  cases hb : begins (l.getD (fromOf l p + j) []) p with
  | false => rfl
  | true =>
    rw [begins_iff] at hb
    have h1 : p ≤ l.getD (fromOf l p + i) [] := by
      have h2 := fromOf_not l p (by omega)
      intro h3
      have h4 := rises_le h (fromOf l p) (fromOf l p + i) (by omega) (by omega)
      exact h2 (lt_of_le_lt h4 h3)
    have h2 := begins_mid p _ _ h1 (rises_le h _ _ (show fromOf l p + i ≤ fromOf l p + j by omega) hj) hb
    rw [← begins_iff] at h2
    rw [h2] at hp
    cases hp
set_option maxRecDepth 100000 in
set_option maxHeartbeats 800000 in
theorem begin_calls (w : World) (g : Nat) (l : List T) (s : ByteArray) (hs : DictAt w g l) (hr : l.Pairwise (· < ·)) (hl : l.length ≤ 4611686018427387904) :
    Calls Try.prog 16 #[.pointer (some ⟨g, 0, none⟩), .string s] w fun e w' => e = .returned (.tuple #[.int .i64 (fromOf l s.data.toList : Nat), .int .i64 (fromOf l s.data.toList + runOf l s.data.toList : Nat)]) ∧ Below w.heap.size w w' := by
  have HS := Aside0.mk hs
  have HR := Aside0.mk hr
  have HL := Aside0.mk hl
  have HRl := Aside0.mk (runOf_le l s.data.toList)
  have HM := Aside0.mk (mono_run hr s.data.toList)
  have HI := Aside0.mk (run_is l s.data.toList)
  have HFr := Aside0.mk (fun w (hs : DictAt w g l) => from_calls w g l s hs hr hl)
  have hfl := fromOf_le l s.data.toList
  clear hs hr hl
  generalize runOf l s.data.toList = rn at *
  generalize fromOf l s.data.toList = lo at *
  have hmf : ∀ (fn : Fn) (first cap : Array Value) (w : World), (Instr.makeFunc fn first cap).run Try.prog w = .ok (.func fn first cap) w := fun _ _ _ _ => rfl
  go_enter Try.func16, Try.ntmps16
  go_wp2_with fail
  have hb1 : Below w.heap.size w ((w.alloc (.cells #[.pointer (some ⟨g, 0, none⟩)] 25)).alloc (.cells #[.string s] 9)) := ((Below.refl _ _).alloc (Nat.le_refl _) _).alloc (by simp) _
  have HS1 := Aside0.mk (HS.out.below hb1)
  have HB1 := Aside0.mk hb1
  have hp : ((w.alloc (.cells #[.pointer (some ⟨g, 0, none⟩)] 25)).alloc (.cells #[.string s] 9)).cell? ⟨w.heap.size, 0, none⟩ = some (.pointer (some ⟨g, 0, none⟩)) := by go_simp
  have hq : ((w.alloc (.cells #[.pointer (some ⟨g, 0, none⟩)] 25)).alloc (.cells #[.string s] 9)).cell? ⟨w.heap.size + 1, 0, none⟩ = some (.string s) := by go_simp
  clear hb1
  generalize ((w.alloc (.cells #[.pointer (some ⟨g, 0, none⟩)] 25)).alloc (.cells #[.string s] 9)) = w1 at *
  refine (HFr.out w1 HS1.out).mono ?_
  rintro e w2 ⟨rfl, hb⟩
  have hp2 := pw_cell_below hb hp
  have hq2 := pw_cell_below hb hq
  have HS2 := Aside0.mk (HS1.out.below hb)
  have HB2 := Aside0.mk (below_then HB1.out HB1.out.size hb)
  clear hb hp hq HB1 HS1
  go_wp2_with fail
  have hb3 : Below w2.heap.size w2 (w2.alloc (.cells #[.int .i64 lo] 3)) := (Below.refl _ _).alloc (Nat.le_refl _) _
  have hp3 := pw_cell_below hb3 hp2
  have hq3 := pw_cell_below hb3 hq2
  have hr3 : (w2.alloc (.cells #[.int .i64 lo] 3)).cell? ⟨w2.heap.size, 0, none⟩ = some (.int .i64 lo) := by go_simp
  have HS3 := Aside0.mk (HS2.out.below hb3)
  have HB3 := Aside0.mk (below_then HB2.out HB2.out.size hb3)
  clear hb3 hp2 hq2 HB2 HS2
  generalize w2.alloc (.cells #[.int .i64 lo] 3) = w3 at *
  generalize w2.heap.size = b3 at *
  have hL := HL.out
  obtain ⟨d, hd⟩ : ∃ d, l.length = lo + d := ⟨l.length - lo, by omega⟩
  have hsub : IntKind.i64.wrap ((l.length : Int) - (lo : Int)) = (d : Int) := by rw [IntKind.wrap_i64]; omega
  have hsub2 : wrap64 ((l.length : Int) - (lo : Int)) = (d : Int) := by rw [IntWalk.wrap64_in _ (by omega)]; omega
  have HD := Aside0.mk hd
  have hdl : d ≤ l.length := by omega
  clear hd hL
  have hpd : w3.drew.cell? ⟨w.heap.size, 0, none⟩ = some (.pointer (some ⟨g, 0, none⟩)) := hp3
  have hrd : w3.drew.cell? ⟨b3, 0, none⟩ = some (.int .i64 lo) := hr3
  have hqd : w3.drew.cell? ⟨w.heap.size + 1, 0, none⟩ = some (.string s) := hq3
  have HWd := Aside0.mk (fun (i : Nat) (w' : World) (hi : i < d) (hb : Below w3.drew.heap.size w3.drew w') => begin_word w' _ _ _ g lo l s (pw_cell_below hb hpd) (pw_cell_below hb hrd) (pw_cell_below hb hqd) (HS3.out.below (below_then (below_drew (Below.refl _ _)) (Nat.le_refl _) hb)) i (by have := HD.out; omega) HL.out)
  clear hpd hrd hqd
  go_wp2_with fail
  refine start_ (n := 7) (S := fun w' => w'.cell? ⟨w.heap.size, 0, none⟩ = some (.pointer (some ⟨g, 0, none⟩)) ∧ w'.cell? ⟨b3, 0, none⟩ = some (.int .i64 lo)) (ds := []) #[false, false, false, false, false, false, false] (by kernel_rfl) rfl rfl ⟨hp3, hr3⟩ (fun hHeld => ?_)
  refine pure_ (i := 4) (N := some 15) (v := ?_) (a' := ?_) #[false, false, false, false, true, false, false] rfl rfl (by kernel_rfl) (fun _ _ _ h => h) (Or.inl ⟨by rfl, ?_⟩) ?_ ?_
  rotate_left
  · intro w'
    go_simp
    with_reducible rfl
  rotate_left
  · simp only [Act.put, List.setIfInBounds_toArray, List.set_cons_zero, List.set_cons_succ, i64_w, i32_w]
    rfl
  refine take_ (i := 0) (N := some 11) (v := ?_) (a' := ?_) #[true, false, false, false, true, false, false] rfl rfl (by kernel_rfl) (fun _ _ _ h => h) (Or.inl ⟨by rfl, ?_⟩) hHeld ?_ ?_
  rotate_left
  · rintro w' ⟨s0, s1⟩
    go_simp
    with_reducible rfl
  rotate_left
  · simp only [Act.put, List.setIfInBounds_toArray, List.set_cons_zero, List.set_cons_succ, i64_w, i32_w]
    rfl
  refine take_ (i := 2) (N := some 13) (v := ?_) (a' := ?_) #[true, false, true, false, true, false, false] rfl rfl (by kernel_rfl) (fun _ _ _ h => h) (Or.inl ⟨by rfl, ?_⟩) hHeld ?_ ?_
  rotate_left
  · rintro w' ⟨s0, s1⟩
    go_simp
    with_reducible rfl
  rotate_left
  · simp only [Act.put, List.setIfInBounds_toArray, List.set_cons_zero, List.set_cons_succ, i64_w, i32_w]
    rfl
  refine one_ (i := 1) (N := some 12) #[true, true, true, false, true, false, false] rfl rfl (by kernel_rfl) (by decide) (fun K hK => ?_)
  refine goes_ Try.func15 (by kernel_rfl) rfl #[.pointer (some ⟨g, 0, none⟩)] (by rfl) rfl rfl (by simp only [List.map_toArray, List.map_cons, List.map_nil]; rfl) ?_
  with_reducible refine (len_calls _ g l (HS3.out.below (below_drew (Below.refl _ _)))).mono ?_
  rintro e w4 ⟨rfl, rfl⟩
  refine ⟨_, rfl, ?_⟩
  refine hK.out _ _ ⟨hHeld.1, hHeld.2⟩ (fun hHeld => ?_)
  clear hK K
  refine norm_ (a' := ?_) ?_ ?_
  rotate_left
  · show Act.put _ (some 12) _ = _
    simp only [Act.put, List.setIfInBounds_toArray, List.set_cons_zero, List.set_cons_succ, i64_w, i32_w]
    rfl
  refine pure_ (i := 3) (N := some 14) (v := ?_) (a' := ?_) #[true, true, true, true, true, false, false] rfl rfl (by kernel_rfl) (fun _ _ _ h => h) (Or.inl ⟨by rfl, ?_⟩) ?_ ?_
  rotate_left
  · intro w'
    go_simp
    with_reducible rfl
  rotate_left
  · simp only [Act.put, List.setIfInBounds_toArray, List.set_cons_zero, List.set_cons_succ, i64_w, i32_w]
    rfl
  refine one_ (i := 5) (N := some 16) #[true, true, true, true, true, true, false] rfl rfl (by kernel_rfl) (by decide) (fun K hK => ?_)
  refine goes_ Try.func30 (by kernel_rfl) rfl #[.int .i64 d, .func (.func 31) #[] #[.pointer (some ⟨w.heap.size, 0, none⟩), .pointer (some ⟨b3, 0, none⟩), .pointer (some ⟨w.heap.size + 1, 0, none⟩)]] (by rfl) rfl rfl (by simp only [List.map_toArray, List.map_cons, List.map_nil]; rfl) ?_
  with_reducible refine (search_calls d w3.drew 31 _ _ Try.func31 (by kernel_rfl) rfl (by have := HL.out; omega) (fun i => !begins (l.getD (lo + i) []) s.data.toList) HWd.out (fun i j hij hj => HM.out i j hij (by have := HD.out; omega))).mono ?_
  rintro e w4 ⟨k, rfl, hk, h1, h2, hdr⟩
  refine ⟨_, rfl, ?_⟩
  have HE := Aside0.mk (HI.out k (by have := HD.out; omega) (fun i hi => by have := h1 i hi; simpa using this) (fun h => by have := h2 (by have := HD.out; omega); simpa using this))
  have hb4 : Below w3.heap.size w3 w4 := below_then (below_drew (Below.refl _ _)) (Nat.le_refl _) hdr.below
  have HB4 := Aside0.mk (below_then HB3.out HB3.out.size hb4)
  have hp4 := pw_cell_below hb4 hp3
  have hr4 := pw_cell_below hb4 hr3
  clear h1 h2 hdr hb4 hk
  refine hK.out _ _ ⟨hp4, hr4⟩ (fun hHeld => ?_)
  clear hK K
  refine norm_ (a' := ?_) ?_ ?_
  rotate_left
  · show Act.put _ (some 16) _ = _
    simp only [Act.put, List.setIfInBounds_toArray, List.set_cons_zero, List.set_cons_succ, i64_w, i32_w]
    rfl
  refine pure_ (i := 6) (N := some 7) (v := ?_) (a' := ?_) #[true, true, true, true, true, true, true] rfl rfl (by kernel_rfl) (fun _ _ _ h => h) (Or.inl ⟨by rfl, ?_⟩) ?_ ?_
  rotate_left
  · intro w'
    go_simp
    with_reducible rfl
  rotate_left
  · simp only [Act.put, List.setIfInBounds_toArray, List.set_cons_zero, List.set_cons_succ, i64_w, i32_w]
    rfl
  refine done_ (by kernel_rfl) ?_
  have hkn : k ≤ d := by have := HE.out; have := HRl.out; have := HD.out; omega
  have hsum : IntKind.i64.wrap ((lo : Int) + (k : Int)) = ((lo + k : Nat) : Int) := by rw [IntKind.wrap_i64]; have := HL.out; have := HD.out; omega
  have hsum2 : wrap64 ((lo : Int) + (k : Int)) = ((lo + k : Nat) : Int) := by have := HL.out; have := HD.out; rw [IntWalk.wrap64_in _ (by omega)]; omega
  go_wp2_with fail
  go_quiet (fail)
  go_wp2_with fail
  go_ret2
  exact ⟨by rw [← HE.out]; rfl, pw_below_drewN HB4.out _⟩
end Go.Proofs.Ytomgfhapmhagnaa.Txt
end

section
namespace Go.Proofs.Ytomgfhapmhagnaa.Bas
set_option linter.unusedVariables false
set_option linter.unusedSimpArgs false
open Go.RowKit Go.Proofs.YtomgfhapmhagnaaW.PrintWords Go.Proofs.YtomgfhapmhagnaaW.PrintLast Go.Proofs.YtomgfhapmhagnaaW.PrintMore Go.Proofs.Ytomgfhapmhagnaa.Lib
theorem info5 : (Try.prog.info? 5).map (fun i => (i.zero, i.size, i.bytes)) = some (some (.int .u8 0), 1, 1) := by kernel_rfl
set_option maxRecDepth 100000 in
set_option maxHeartbeats 400000 in
theorem clone_calls (xs : List Int) (len : Nat) (A : Option Addr) (c : Nat) (w : World) (hr : Kd.C (Kd.int .u8) w A len xs) (hl : xs.length ≤ 140737488355328) :
    Calls Try.prog 69 #[.slice A len c] w fun e w' => ∃ v, e = .returned v ∧ Kd.R (Kd.int .u8) 5 w' w.heap.size (fun _ => True) v xs ∧ Below w.heap.size w w' := by
  obtain rfl := hr.1
  have HR := Aside0.mk hr
  have HB := Aside0.mk (Below.refl w.heap.size w)
  clear hr
  have heq := fun u : World => Lib.run_eql_slice_nil (P := Try.prog) u 43 5 A xs.length c 0 0 Try.underlying43
  rcases A with _ | ad
  · have hx : xs = [] := by
      rcases xs with _ | ⟨x, l⟩
      · rfl
      · obtain ⟨ad, h, _⟩ := HR.out.2.2 (by simp)
        cases h
    subst hx
    simp only [List.length_nil, Option.isNone_none] at heq
    go_enter Try.func69, Try.ntmps69
    go_wp2
    go_ret
    exact ⟨_, rfl, Kd.R_nil _ _ _ _ _, HB.out⟩
  · go_enter Try.func69, Try.ntmps69
    go_wp2_with (first
      | ((with_reducible refine gate_dst (N := 5) rfl ?_); refine Kd.R_lit (Kd.int .u8) (w0 := w) w.heap.size 5 ?hg (N := 5) ?hd (xs := ([] : List Int)) (inner := []) (ok := fun _ => True) (okp := fun _ => True) ?hr (Reps.none _ _) (fun _ hk => hk) trivial HB.out (Nat.le_refl _) (by simp) ?_; (case hd => rfl); (case hg => rfl); (case hr => first | (go_simp; done) | (go_simp; rfl)); intro v1 w1 ho1 hb1 hg1 ha1; have HO := Aside0.mk ho1; have HB1 := Aside0.mk hb1; have HR1 := Aside0.mk (Kd.C_below HR.out hb1); clear ho1 hb1 hg1 ha1)
      | ((with_reducible refine gate_builtin (b := .append) (xs := #[.tmp 5, .tmp 6]) rfl ?_); at_builtin; refine Kd.R_append_rows (Kd.int .u8) (w0 := w) w.heap.size rfl (.tmp 5) (.tmp 6) 43 5 (.int .u8 0) 1 rfl Try.underlying43 info5 rfl (by decide) (by omega) v1 [] xs (some ad) xs.length c (fun _ => True) (fun _ => False) rfl rfl HO.out HR1.out ?aK (fun _ h => h.elim) (fun _ _ => trivial) HB1.out HB1.out.size ?aL ?_; (case aK => exact fun _ _ h => h); (case aL => simp; omega); intro v2 w2 ho2 hb2 hg2 ha2; have HO2 := Aside0.mk ho2; have HB2 := Aside0.mk hb2; clear ho2 hb2 hg2 ha2))
    go_ret
    exact ⟨_, rfl, HO2.out, HB2.out⟩
set_option maxRecDepth 100000 in
set_option maxHeartbeats 400000 in
theorem clip_calls (n c : Nat) (A : Option Addr) (w : World) (hc : n ≤ c) :
    Calls Try.prog 68 #[.slice A n c] w fun e w' => e = .returned (.slice A n n) ∧ w = w' := by
  go_enter Try.func68, Try.ntmps68
  go_wp2
  go_ret
  exact ⟨rfl, rfl⟩
set_option maxRecDepth 100000 in
set_option maxHeartbeats 400000 in
theorem own_calls (xs : List Int) (len : Nat) (A : Option Addr) (c : Nat) (w : World) (hr : Kd.C (Kd.int .u8) w A len xs) (hl : xs.length ≤ 140737488355328) :
    Calls Try.prog 54 #[.slice A len c] w fun e w' => ∃ A', e = .returned (.slice A' xs.length xs.length) ∧ Kd.C (Kd.int .u8) w' A' xs.length xs ∧ Below w.heap.size w w' := by
  obtain rfl := hr.1
  go_enter Try.func54, Try.ntmps54
  go_wp2_with fail
  refine (clone_calls xs _ A c w hr hl).mono ?_
  rintro e w1 ⟨v, rfl, ho, hb⟩
  obtain ⟨A1, c1, rfl, hc1, hC1⟩ := Kd.R_reads ho
  have HB := Aside0.mk hb
  have HC := Aside0.mk hC1
  clear hb ho hC1
  go_wp2_with fail
  refine (clip_calls xs.length c1 A1 w1 hc1).mono ?_
  rintro e w2 ⟨rfl, rfl⟩
  go_wp2_with fail
  go_ret
  exact ⟨_, rfl, HC.out, HB.out⟩
set_option maxRecDepth 100000 in
set_option maxHeartbeats 800000 in
theorem number_clip (xs : List Int) (A : Option Addr) (n : Nat) (w : World) (hr : Kd.C (Kd.int .u8) w A xs.length xs) (hn : n < 18446744073709551616) (hl : xs.length + 10 ≤ 140737488355328) :
    Calls Try.prog 53 #[.slice A xs.length xs.length, .int .u64 n] w fun e w' => ∃ v, e = .returned v ∧ Kd.R (Kd.int .u8) 5 w' w.heap.size (fun _ => True) v (xs ++ varint n) ∧ Below w.heap.size w w' := by
  have HR := Aside0.mk hr
  have hv := varint_le10 hn
  clear hr
  go_enter Try.func53, Try.ntmps53
  go_wp2
  go_loopw [0, 1] (fun v0 v1 w' => ∃ (m : Nat) (acc : List Int), v1 = .int .u64 m ∧ m < 18446744073709551616 ∧ Aside0 (acc ++ varint m = xs ++ varint n) ∧ Aside0 ((v0 = .slice A xs.length xs.length ∧ acc = xs ∧ w' = w) ∨ Kd.R (Kd.int .u8) 5 w' w.heap.size (fun _ => True) v0 acc) ∧ Aside0 (Below w.heap.size w w')) (fun _ v1 _ => (intOf v1).toNat)
  case atStart => exact ⟨n, xs, rfl, hn, ⟨rfl⟩, ⟨.inl ⟨rfl, rfl, rfl⟩⟩, ⟨Below.refl _ _⟩⟩
  case round =>
    obtain ⟨m, acc, rfl, hm, HE, HO, HB⟩ := hrel
    have hlen : acc.length + (varint m).length ≤ xs.length + 10 := by
      have := congrArg List.length HE.out
      simp only [List.length_append] at this
      omega
    by_cases hbig : 128 ≤ m
    · rw [varint_big hbig] at HE hlen
      have hq : m / 128 < m := by omega
      have h128 := or128 m
      have hdv : (m : Int) / 128 = ((m / 128 : Nat) : Int) := by omega
      generalize m / 128 = m2 at *
      generalize ((m % 128 + 128 : Nat) : Int) = b at *
      rw [List.length_cons] at hlen
      have HE2 := Aside0.mk ((List.append_assoc acc [b] (varint m2)).trans HE.out)
      clear HE
      rcases HO.out with ⟨rfl, rfl, rfl⟩ | ho
      · clear HO
        go_wp2_with (first
          | ((with_reducible refine gate_builtin (b := .append) (xs := #[.tmp 7, .tmp 11]) rfl ?_); at_builtin; refine append_clip (k := .u8) (w0 := wr) (W := wr) wr.heap.size rfl (.tmp 7) (.tmp 11) 43 5 1 rfl Try.underlying43 info5 acc A b rfl rfl HR.out HB.out (Nat.le_refl _) (by decide) (by omega) ?_; intro v2 w2 ho2 hb2 _; have HO2 := Aside0.mk ho2; have HB2 := Aside0.mk hb2; clear ho2 hb2))
        go_roundw
        case rel => exact ⟨m2, acc ++ [b], by go_num, by omega, HE2, ⟨.inr HO2.out⟩, HB2⟩
        case measure => simp [intOf]; omega
      · have HO1 := Aside0.mk ho
        clear HO ho
        go_wp2_with (first
          | ((with_reducible refine gate_builtin (b := .append) (xs := #[.tmp 7, .tmp 11]) rfl ?_); at_builtin; refine Kd.R_append (Kd.int .u8) (w0 := w) w.heap.size rfl (.tmp 7) (.tmp 11) 43 5 (.int .u8 0) 1 rfl Try.underlying43 info5 rfl (by decide) (by omega) _ acc b [.int .u8 b] (fun _ => True) (fun _ => False) rfl rfl rfl (fun _ hk => hk.elim) (fun _ _ => trivial) HO1.out HB.out HB.out.size (by omega) ?_; intro v2 w2 ho2 hb2 hg2 ha2; have HO2 := Aside0.mk ho2; have HB2 := Aside0.mk hb2; clear ho2 hb2 hg2 ha2))
        go_roundw
        case rel => exact ⟨m2, acc ++ [b], by go_num, by omega, HE2, ⟨.inr HO2.out⟩, HB2⟩
        case measure => simp [intOf]; omega
    · have hs := varint_small (show m < 128 by omega)
      rw [hs] at HE hlen
      rw [List.length_singleton] at hlen
      have hmod : (m : Int) % 256 = (m : Int) := by omega
      rcases HO.out with ⟨rfl, rfl, rfl⟩ | ho
      · clear HO
        go_wp2_with (first
          | ((with_reducible refine gate_builtin (b := .append) (xs := #[.tmp 15, .tmp 18]) rfl ?_); at_builtin; refine append_clip (k := .u8) (w0 := wr) (W := wr) wr.heap.size rfl (.tmp 15) (.tmp 18) 43 5 1 rfl Try.underlying43 info5 acc A m rfl rfl HR.out HB.out (Nat.le_refl _) (by decide) (by omega) ?_; intro v2 w2 ho2 hb2 _; have HO2 := Aside0.mk ho2; have HB2 := Aside0.mk hb2; clear ho2 hb2))
        go_ret
        exact ⟨_, rfl, by rw [← HE.out]; exact HO2.out, HB2.out⟩
      · have HO1 := Aside0.mk ho
        clear HO ho
        go_wp2_with (first
          | ((with_reducible refine gate_builtin (b := .append) (xs := #[.tmp 15, .tmp 18]) rfl ?_); at_builtin; refine Kd.R_append (Kd.int .u8) (w0 := w) w.heap.size rfl (.tmp 15) (.tmp 18) 43 5 (.int .u8 0) 1 rfl Try.underlying43 info5 rfl (by decide) (by omega) _ acc m [.int .u8 m] (fun _ => True) (fun _ => False) rfl rfl rfl (fun _ hk => hk.elim) (fun _ _ => trivial) HO1.out HB.out HB.out.size (by omega) ?_; intro v2 w2 ho2 hb2 hg2 ha2; have HO2 := Aside0.mk ho2; have HB2 := Aside0.mk hb2; clear ho2 hb2 hg2 ha2))
        go_ret
        exact ⟨_, rfl, by rw [← HE.out]; exact HO2.out, HB2.out⟩
end Go.Proofs.Ytomgfhapmhagnaa.Bas
end

section
namespace Go.Proofs.Ytomgfhapmhagnaa.Bas
set_option linter.unusedVariables false
set_option linter.unusedSimpArgs false
open Go.RowKit Go.Proofs.YtomgfhapmhagnaaW.PrintWords Go.Proofs.YtomgfhapmhagnaaW.PrintLast Go.Proofs.YtomgfhapmhagnaaW.PrintMore Go.Proofs.Ytomgfhapmhagnaa.Lib
set_option maxRecDepth 100000 in
set_option maxHeartbeats 400000 in
theorem uint_calls (xs : List Int) (len : Nat) (A : Option Addr) (c : Nat) (n : Int) (w : World) (hr : Kd.C (Kd.int .u8) w A len xs) (h0 : 0 ≤ n) (hn : n < 18446744073709551616) (hl : xs.length + 10 ≤ 140737488355328) :
    Calls Try.prog 34 #[.slice A len c, .int .u64 n] w fun e w' => ∃ v, e = .returned v ∧ Kd.R (Kd.int .u8) 5 w' w.heap.size (fun _ => True) v (xs ++ varint n.toNat) ∧ Below w.heap.size w w' := by
  obtain rfl := hr.1
  obtain ⟨n, rfl⟩ := Int.eq_ofNat_of_zero_le h0
  rw [Int.toNat_natCast]
  go_enter Try.func34, Try.ntmps34
  go_wp2_with fail
  refine (own_calls xs _ A c w hr (by omega)).mono ?_
  rintro e w1 ⟨A1, rfl, hC, hb⟩
  have HB := Aside0.mk hb
  have HC := Aside0.mk hC
  clear hb hC
  go_wp2_with fail
  refine (number_clip xs A1 n w1 HC.out (by omega) hl).mono ?_
  rintro e w2 ⟨v, rfl, ho, hb⟩
  have HO := Aside0.mk (Kd.R_lower ho HB.out.size)
  have HB2 := Aside0.mk (below_then HB.out HB.out.size hb)
  clear ho hb
  go_wp2_with fail
  go_ret
  exact ⟨_, rfl, HO.out, HB2.out⟩
set_option maxRecDepth 100000 in
set_option maxHeartbeats 400000 in
theorem text_calls (xs : List Int) (len : Nat) (A : Option Addr) (c : Nat) (s : ByteArray) (w : World) (hr : Kd.C (Kd.int .u8) w A len xs) (hl : xs.length + 10 + s.size ≤ 140737488355328) :
    Calls Try.prog 36 #[.slice A len c, .string s] w fun e w' => ∃ v, e = .returned v ∧ Kd.R (Kd.int .u8) 5 w' w.heap.size (fun _ => True) v (xs ++ varint s.size ++ bytesOf s) ∧ Below w.heap.size w w' := by
  obtain rfl := hr.1
  go_enter Try.func36, Try.ntmps36
  go_wp2_with fail
  refine (own_calls xs _ A c w hr (by omega)).mono ?_
  rintro e w1 ⟨A1, rfl, hC, hb⟩
  have HB := Aside0.mk hb
  have HC := Aside0.mk hC
  clear hb hC
  go_wp2_with fail
  refine (number_clip xs A1 s.size w1 HC.out (by omega) (by omega)).mono ?_
  rintro e w2 ⟨v, rfl, ho, hb⟩
  have HO := Aside0.mk (Kd.own_of_R (enc := Value.int .u8) (h1 := fun _ => rfl) (Kd.R_lower ho HB.out.size))
  have HB2 := Aside0.mk (below_then HB.out HB.out.size hb)
  have hv := varint_le10 (show s.size < 18446744073709551616 by omega)
  clear ho hb
  go_wp2_with (first
    | ((with_reducible refine gate_builtin (b := .append) (xs := #[.tmp 10, .tmp 11]) rfl ?_); at_builtin; refine print_append_str (w0 := w) w.heap.size rfl (.tmp 10) (.tmp 11) 43 9 5 rfl Try.underlying43 Try.underlying9 info5 _ (xs ++ varint s.size) s rfl rfl HO.out HB2.out HB2.out.size ?aL ?_; (case aL => rw [List.length_append]; omega); intro v3 w3 ho3 hb3 hg3; have HO3 := Aside0.mk ho3; have HB3 := Aside0.mk hb3; clear ho3 hb3 hg3))
  go_ret
  exact ⟨_, rfl, Kd.R_of_own (enc := Value.int .u8) (h1 := fun _ => rfl) HO3.out (fun _ _ => trivial), HB3.out⟩
end Go.Proofs.Ytomgfhapmhagnaa.Bas
end

section
namespace Go.Proofs.Ytomgfhapmhagnaa.Txt
set_option linter.unusedVariables false
set_option linter.unusedSimpArgs false
open Go.RowKit Go.Proofs.YtomgfhapmhagnaaW.PrintWords Go.Proofs.YtomgfhapmhagnaaW.PrintLast Go.Proofs.YtomgfhapmhagnaaW.PrintMore Go.Proofs.Ytomgfhapmhagnaa.Lib Go.Proofs.Ytomgfhapmhagnaa.Bas
def sharedOf : T → T → Nat
  | x :: a, y :: b => if x = y then sharedOf a b + 1 else 0
  | _, _ => 0
theorem sharedOf_nil (a : T) : sharedOf [] a = 0 := by cases a <;> rfl
theorem sharedOf_le : ∀ a b : T, sharedOf a b ≤ a.length ∧ sharedOf a b ≤ b.length
  | [], b => by rw [sharedOf_nil]; exact ⟨Nat.zero_le _, Nat.zero_le _⟩
  | x :: a, [] => by simp [sharedOf]
  | x :: a, y :: b => by
    have h := sharedOf_le a b
    unfold sharedOf
    split <;> simp <;> omega
theorem shared_is : ∀ (a b : T) (n : Nat), n ≤ a.length → n ≤ b.length → (∀ i, i < n → a.getD i 0 = b.getD i 0) → (n < a.length → n < b.length → a.getD n 0 ≠ b.getD n 0) → n = sharedOf a b
  | [], b, n, h1, _, _, _ => by rw [sharedOf_nil]; simpa using h1
  | x :: a, [], n, _, h2, _, _ => by simp only [sharedOf]; simpa using h2
  | x :: a, y :: b, 0, _, _, _, h4 => by
    have := h4 (by simp) (by simp)
    simp only [List.getD_cons_zero] at this
    simp [sharedOf, this]
  | x :: a, y :: b, n + 1, h1, h2, h3, h4 => by
    have e := h3 0 (by omega)
    simp only [List.getD_cons_zero] at e
    rw [sharedOf, if_pos e]
    congr 1
    refine shared_is a b n (by simpa using h1) (by simpa using h2) (fun i hi => by have := h3 (i + 1) (by omega); simpa using this) (fun g1 g2 => by have := h4 (by simpa using g1) (by simpa using g2); simpa using this)
theorem byte_getD (s : ByteArray) (i : Nat) (h : i < s.size) : s[i] = s.data.toList.getD i 0 := by
  rw [List.getD_eq_getElem?_getD, List.getElem?_eq_getElem (by simpa using h)]
  rfl
set_option maxRecDepth 100000 in
set_option maxHeartbeats 800000 in
theorem shared_calls (a b : ByteArray) (w : World) (ha : a.size ≤ 9223372036854775807) (hb : b.size ≤ 9223372036854775807) :
    Calls Try.prog 35 #[.string a, .string b] w fun e w' => e = .returned (.int .i64 (sharedOf a.data.toList b.data.toList : Nat)) ∧ Drawn0 w w' := by
  have HI := Aside0.mk (shared_is a.data.toList b.data.toList)
  obtain ⟨r, hr⟩ : ∃ r, sharedOf a.data.toList b.data.toList = r := ⟨_, rfl⟩
  rw [hr] at HI ⊢
  clear hr
  go_enter Try.func35, Try.ntmps35
  go_wp2_with fail
  go_loopw [5] (fun nv w' => ∃ n : Nat, n ≤ a.size ∧ n ≤ b.size ∧ nv = .int .i64 n ∧ Aside0 (∀ i, i < n → a.data.toList.getD i 0 = b.data.toList.getD i 0) ∧ Drawn0 w w') (fun nv _ => a.size - (intOf nv).toNat)
  case atStart => exact ⟨0, Nat.zero_le _, Nat.zero_le _, rfl, ⟨fun i hi => by omega⟩, Drawn0.refl _⟩
  case round =>
    obtain ⟨n, hna, hnb, rfl, HE, HD⟩ := hrel
    have HDr := Aside0.mk HD
    clear HD
    by_cases hla : n < a.size
    · by_cases hlb : n < b.size
      · have e1 := byte_getD a n hla
        have e2 := byte_getD b n hlb
        by_cases he : a.data.toList.getD n 0 = b.data.toList.getD n 0
        · have HE2 := Aside0.mk (show ∀ i, i < n + 1 → a.data.toList.getD i 0 = b.data.toList.getD i 0 by
            intro i hi
            rcases Nat.lt_succ_iff_lt_or_eq.1 hi with h | rfl
            · exact HE.out i h
            · exact he)
          have hq : (((a[n].toNat : Nat) : Int) == ((b[n].toNat : Nat) : Int)) = true := by rw [e1, e2, he]; simp
          clear e1 e2 he HE
          go_wp2_with fail
          go_quiet (fail)
          go_wp2_with fail
          go_roundw
          case rel => exact ⟨n + 1, by omega, by omega, by go_num, HE2, HDr.out.step _⟩
          case measure => simp [intOf]; omega
        · have HX := Aside0.mk (HI.out n (by simpa using hna) (by simpa using hnb) HE.out (fun _ _ => he))
          have hq : (((a[n].toNat : Nat) : Int) == ((b[n].toNat : Nat) : Int)) = false := by
            rw [e1, e2, beq_eq_false_iff_ne]
            exact fun h => he (UInt8.toNat_inj.1 (by omega))
          clear e1 e2 he HE
          go_wp2_with fail
          go_quiet (fail)
          go_wp2_with fail
          go_ret
          exact ⟨by rw [← HX.out]; rfl, HDr.out.step _⟩
      · have HX := Aside0.mk (HI.out n (by simpa using hna) (by simpa using hnb) HE.out (fun _ h => absurd (by simpa using h) hlb))
        have hd : decide ((n : Int) < (b.size : Int)) = false := decide_eq_false (by omega)
        go_wp2_with fail
        go_quiet (fail)
        go_wp2_with fail
        go_ret
        exact ⟨by rw [← HX.out]; rfl, HDr.out.step _⟩
    · have HX := Aside0.mk (HI.out n (by simpa using hna) (by simpa using hnb) HE.out (fun h _ => absurd (by simpa using h) hla))
      have hd : decide ((n : Int) < (a.size : Int)) = false := decide_eq_false (by omega)
      go_wp2_with fail
      go_quiet (fail)
      go_wp2_with fail
      go_ret
      exact ⟨by rw [← HX.out]; rfl, HDr.out.step _⟩
def numsT (t : T) : List Int := t.map fun b => (b.toNat : Int)
theorem numsT_length (t : T) : (numsT t).length = t.length := by simp [numsT]
def encOne (was t : T) : List Int := varint (sharedOf was t) ++ varint (t.length - sharedOf was t) ++ numsT (t.drop (sharedOf was t))
def encAll : T → List T → List Int
  | _, [] => []
  | was, t :: l => encOne was t ++ encAll t l
def dictBytes (l : List T) : List Int := varint l.length ++ encAll [] l
theorem encAll_snoc : ∀ (was : T) (l : List T) (t : T), encAll was (l ++ [t]) = encAll was l ++ encOne ((l.getLast?).getD was) t
  | was, [], t => by simp [encAll]
  | was, x :: l, t => by
    rw [List.cons_append, encAll, encAll, encAll_snoc x l t, List.append_assoc]
    congr 2
    cases l with
    | nil => rfl
    | cons y l => simp [List.getLast?_cons_cons, List.getLast?_cons]
theorem encOne_le (was t : T) (h : t.length ≤ 64) : (encOne was t).length ≤ 84 := by
  have h1 := sharedOf_le was t
  have v1 := varint_le10 (n := sharedOf was t) (by omega)
  have v2 := varint_le10 (n := t.length - sharedOf was t) (by omega)
  unfold encOne
  rw [List.length_append, List.length_append, numsT_length, List.length_drop]
  omega
theorem encAll_le : ∀ (was : T) (l : List T), (∀ t ∈ l, t.length ≤ 64) → (encAll was l).length ≤ 84 * l.length
  | _, [], _ => by simp [encAll]
  | was, t :: l, h => by
    have h1 := encOne_le was t (h t (by simp))
    have h2 := encAll_le t l (fun x hx => h x (by simp [hx]))
    rw [encAll, List.length_append, List.length_cons]
    omega
end Go.Proofs.Ytomgfhapmhagnaa.Txt
end

section
namespace Go.Proofs.Ytomgfhapmhagnaa.Txt
set_option linter.unusedVariables false
set_option linter.unusedSimpArgs false
open Go.RowKit Go.Proofs.YtomgfhapmhagnaaW.PrintWords Go.Proofs.YtomgfhapmhagnaaW.PrintLast Go.Proofs.YtomgfhapmhagnaaW.PrintMore Go.Proofs.Ytomgfhapmhagnaa.Lib Go.Proofs.Ytomgfhapmhagnaa.Bas
def lastT (l : List T) (k : Nat) : T := ((l.take k).getLast?).getD []
theorem lastT_succ (l : List T) (k : Nat) (h : k < l.length) : lastT l (k + 1) = l.getD k [] := by
  unfold lastT
  rw [List.take_succ_eq_append_getElem h, List.getLast?_append, List.getD_eq_getElem?_getD, List.getElem?_eq_getElem h]
  simp
theorem lastT_le (l : List T) (k : Nat) (h : ∀ t ∈ l, t.length ≤ 64) : (lastT l k).length ≤ 64 := by
  unfold lastT
  cases e : (l.take k).getLast? with
  | none => simp
  | some t => exact h t (List.mem_of_mem_take (List.mem_of_getLast? e))
theorem encAll_take (l : List T) (k : Nat) (h : k < l.length) : encAll [] (l.take (k + 1)) = encAll [] (l.take k) ++ encOne (lastT l k) (l.getD k []) := by
  rw [List.take_succ_eq_append_getElem h, encAll_snoc, List.getD_eq_getElem?_getD, List.getElem?_eq_getElem h]
  rfl
theorem sub_text (t : T) (n : Nat) (h : n ≤ t.length) : ((bs t).extract n (bs t).size).data.toList = t.drop n := by
  rw [ByteArray.data_extract, Array.toList_extract, bs_data, bs_size, List.extract_eq_take_drop, List.take_of_length_le (by rw [List.length_drop]; omega)]
set_option maxRecDepth 100000 in
set_option maxHeartbeats 1600000 in
theorem bytes_calls (w : World) (g : Nat) (l : List T) (hs : DictAt w g l) (hl : l.length ≤ 4096) (ht : ∀ t ∈ l, t.length ≤ 64) :
    Calls Try.prog 18 #[.pointer (some ⟨g, 0, none⟩)] w fun e w' => ∃ v, e = .returned v ∧ Kd.R (Kd.int .u8) 5 w' w.heap.size (fun _ => True) v (dictBytes l) ∧ Below w.heap.size w w' := by
  obtain ⟨A, c, c0, hC, hc⟩ := hs
  have HC := Aside0.mk hC
  obtain ⟨m, hm⟩ : ∃ m, l.length = m := ⟨_, rfl⟩
  have HT := Aside0.mk ht
  have HM := Aside0.mk hm
  rw [hm] at c0 hl HC
  have hmw : IntKind.u64.wrap (m : Int) = (m : Int) := by rw [IntKind.wrap_u64]; omega
  clear hC hc hm ht
  go_enter Try.func18, Try.ntmps18
  go_wp2_with fail
  refine (uint_calls [] 0 none 0 m w (Kd.C_nil _ _) (by omega) (by omega) (by simp)).mono ?_
  rintro e w1 ⟨v1, rfl, ho, hb⟩
  rw [List.nil_append, Int.toNat_natCast] at ho
  have HO1 := Aside0.mk ho
  have HB1 := Aside0.mk hb
  have HC1 := Aside0.mk (Kd.C_below HC.out hb)
  have c01 := pw_cell_below hb c0
  clear ho hb c0
  go_wp2_with fail
  go_loopw [3, 4, 22] (fun ov sv kv w' => ∃ k : Nat, k ≤ m ∧ kv = .int .i64 k ∧ sv = .string (bs (lastT l k)) ∧ Aside0 (Kd.R (Kd.int .u8) 5 w' w.heap.size (fun _ => True) ov (varint m ++ encAll [] (l.take k))) ∧ Aside0 (Below w.heap.size w w')) (fun _ _ kv _ => m - (intOf kv).toNat)
  case atStart => exact ⟨0, Nat.zero_le _, rfl, rfl, ⟨by rw [List.take_zero]; simpa [encAll] using HO1.out⟩, HB1⟩
  case round =>
    obtain ⟨k, hk, rfl, rfl, HO, HB⟩ := hrel
    by_cases hlt : k < m
    · have HK := Aside0.mk (show k < l.length by have := HM.out; omega)
      have HCk := Aside0.mk (Kd.C_below HC.out HB.out)
      obtain ⟨ad, e, hcell⟩ := at_text HCk.out k hlt
      subst e
      have hki : (k : Int) < (m : Int) := by omega
      have htl := HT.out (l.getD k []) (by rw [List.getD_eq_getElem?_getD, List.getElem?_eq_getElem HK.out]; exact List.getElem_mem _)
      have hll := lastT_le l k HT.out
      have hsh := sharedOf_le (lastT l k) (l.getD k [])
      have HSh := Aside0.mk (fun w => shared_calls (bs (lastT l k)) (bs (l.getD k [])) w (by rw [bs_size]; omega) (by rw [bs_size]; omega))
      rw [bs_data, bs_data] at HSh
      have HE := Aside0.mk (encAll_take l k HK.out)
      have HLS := Aside0.mk (lastT_succ l k HK.out)
      have HSub := Aside0.mk (sub_text (l.getD k []) (sharedOf (lastT l k) (l.getD k [])) hsh.2)
      have hsz := bs_size (l.getD k [])
      have HEl := Aside0.mk (encAll_le [] (l.take k) (fun t h => HT.out t (List.mem_of_mem_take h)))
      unfold encOne at HE
      generalize sharedOf (lastT l k) (l.getD k []) = n at *
      generalize l.getD k [] = t at *
      generalize lastT l k = was at *
      generalize hbt : bs t = s at *
      obtain ⟨A2, c2, rfl, hc2, hC2⟩ := Kd.R_reads HO.out
      have HC2 := Aside0.mk hC2
      have hv := varint_le10 (show m < 18446744073709551616 by omega)
      have hxl : (varint m ++ encAll [] (List.take k l)).length ≤ 10 + 84 * 4096 := by
        have := HEl.out; rw [List.length_append]; have := List.length_take_le k l; omega
      clear HEl hv HC1 hc2 hC2
      generalize hxs : varint m ++ encAll [] (List.take k l) = xs at *
      have HX := Aside0.mk hxs
      clear hxs
      have hnw : IntKind.u64.wrap (n : Int) = (n : Int) := by rw [IntKind.wrap_u64]; omega
      have hnn : n ≤ s.size := by omega
      have HSz := Aside0.mk hsz
      have htl2 : s.size ≤ 64 := by omega
      clear hsz
      go_wp2_with fail
      refine (HSh.out _).mono ?_
      rintro e w2 ⟨rfl, hd⟩
      have HB2 := Aside0.mk (below_then HB.out HB.out.size hd.below)
      have HC3 := Aside0.mk (Kd.C_below HC2.out hd.below)
      clear hd HC2
      go_wp2_with fail
      refine start_ (n := 9) (S := fun w' => True) (ds := []) #[false, false, false, false, false, false, false, false, false] (by kernel_rfl) rfl rfl trivial (fun hHeld => ?_)
      refine pure_ (i := 0) (N := some 29) (v := ?_) (a' := ?_) #[true, false, false, false, false, false, false, false, false] rfl rfl (by kernel_rfl) (fun _ _ _ h => h) (Or.inl ⟨by rfl, ?_⟩) ?_ ?_
      rotate_left
      · intro w'
        go_simp
        with_reducible rfl
      rotate_left
      · simp only [Act.put, List.setIfInBounds_toArray, List.set_cons_zero, List.set_cons_succ, i64_w, i32_w]
        rfl
      refine pure_ (i := 1) (N := some 30) (v := ?_) (a' := ?_) #[true, true, false, false, false, false, false, false, false] rfl rfl (by kernel_rfl) (fun _ _ _ h => h) (Or.inl ⟨by rfl, ?_⟩) ?_ ?_
      rotate_left
      · intro w'
        go_simp
        with_reducible rfl
      rotate_left
      · simp only [Act.put, List.setIfInBounds_toArray, List.set_cons_zero, List.set_cons_succ, i64_w, i32_w]
        rfl
      refine pure_ (i := 2) (N := some 31) (v := ?_) (a' := ?_) #[true, true, true, false, false, false, false, false, false] rfl rfl (by kernel_rfl) (fun _ _ _ h => h) (Or.inl ⟨by rfl, ?_⟩) ?_ ?_
      rotate_left
      · intro w'
        go_simp
        with_reducible rfl
      rotate_left
      · simp only [Act.put, List.setIfInBounds_toArray, List.set_cons_zero, List.set_cons_succ, i64_w, i32_w]
        rfl
      refine pure_ (i := 4) (N := some 33) (v := ?_) (a' := ?_) #[true, true, true, false, true, false, false, false, false] rfl rfl (by kernel_rfl) (fun _ _ _ h => h) (Or.inl ⟨by rfl, ?_⟩) ?_ ?_
      rotate_left
      · intro w'
        go_simp
        with_reducible rfl
      rotate_left
      · simp only [Act.put, List.setIfInBounds_toArray, List.set_cons_zero, List.set_cons_succ, i64_w, i32_w]
        rfl
      refine pure_ (i := 5) (N := some 34) (v := ?_) (a' := ?_) #[true, true, true, false, true, true, false, false, false] rfl rfl (by kernel_rfl) (fun _ _ _ h => h) (Or.inl ⟨by rfl, ?_⟩) ?_ ?_
      rotate_left
      · intro w'
        go_simp
        with_reducible rfl
      rotate_left
      · simp only [Act.put, List.setIfInBounds_toArray, List.set_cons_zero, List.set_cons_succ, i64_w, i32_w]
        rfl
      refine pure_ (i := 6) (N := some 35) (v := ?_) (a' := ?_) #[true, true, true, false, true, true, true, false, false] rfl rfl (by kernel_rfl) (fun _ _ _ h => h) (Or.inl ⟨by rfl, ?_⟩) ?_ ?_
      rotate_left
      · intro w'
        go_simp
        with_reducible rfl
      rotate_left
      · simp only [Act.put, List.setIfInBounds_toArray, List.set_cons_zero, List.set_cons_succ, i64_w, i32_w]
        rfl
      refine one_ (i := 3) (N := some 32) #[true, true, true, true, true, true, true, false, false] rfl rfl (by kernel_rfl) (by decide) (fun K hK => ?_)
      refine goes_ Try.func34 (by kernel_rfl) rfl #[.slice A2 xs.length c2, .int .u64 n] (by rfl) rfl rfl (by simp only [List.map_toArray, List.map_cons, List.map_nil]; rfl) ?_
      with_reducible refine (uint_calls xs xs.length A2 c2 n _ (Kd.C_drew HC3.out) (by omega) (by omega) (by omega)).mono ?_
      rintro e w3 ⟨v3, rfl, ho, hb⟩
      refine ⟨_, rfl, ?_⟩
      have ho2 := Kd.R_lower ho HB2.out.size
      rw [Int.toNat_natCast] at ho2
      obtain ⟨A3, c3, rfl, hc3, hC3⟩ := Kd.R_reads ho2
      have HB3 := Aside0.mk (below_then (below_drew HB2.out) HB2.out.size hb)
      have HC4 := Aside0.mk hC3
      clear ho ho2 hb hc3 hC3
      refine hK.out _ _ trivial (fun hHeld => ?_)
      clear hK K
      refine norm_ (a' := ?_) ?_ ?_
      rotate_left
      · show Act.put _ (some 32) _ = _
        simp only [Act.put, List.setIfInBounds_toArray, List.set_cons_zero, List.set_cons_succ, i64_w, i32_w]
        rfl
      refine one_ (i := 7) (N := some 36) #[true, true, true, true, true, true, true, true, false] rfl rfl (by kernel_rfl) (by decide) (fun K hK => ?_)
      refine goes_ Try.func36 (by kernel_rfl) rfl #[.slice A3 (xs ++ varint n).length c3, .string (s.extract n s.size)] (by rfl) rfl rfl (by simp only [List.map_toArray, List.map_cons, List.map_nil]; rfl) ?_
      with_reducible refine (Bas.text_calls (xs ++ varint n) _ A3 c3 (s.extract n s.size) _ HC4.out (by have := varint_le10 (show n < 18446744073709551616 by omega); rw [List.length_append, ByteArray.size_extract]; omega)).mono ?_
      rintro e w4 ⟨v4, rfl, ho, hb⟩
      refine ⟨_, rfl, ?_⟩
      have HO4 := Aside0.mk (Kd.R_lower ho HB3.out.size)
      have HB4 := Aside0.mk (below_then HB3.out HB3.out.size hb)
      clear ho hb
      refine hK.out _ _ trivial (fun hHeld => ?_)
      clear hK K
      refine norm_ (a' := ?_) ?_ ?_
      rotate_left
      · show Act.put _ (some 36) _ = _
        simp only [Act.put, List.setIfInBounds_toArray, List.set_cons_zero, List.set_cons_succ, i64_w, i32_w]
        rfl
      refine pure_ (i := 8) (N := some 3) (v := ?_) (a' := ?_) #[true, true, true, true, true, true, true, true, true] rfl rfl (by kernel_rfl) (fun _ _ _ h => h) (Or.inl ⟨by rfl, ?_⟩) ?_ ?_
      rotate_left
      · intro w'
        go_simp
        with_reducible rfl
      rotate_left
      · simp only [Act.put, List.setIfInBounds_toArray, List.set_cons_zero, List.set_cons_succ, i64_w, i32_w]
        rfl
      refine done_ (by kernel_rfl) ?_
      go_wp2_with fail
      go_roundw
      case rel =>
        refine ⟨k + 1, by omega, by go_num, by rw [HLS.out]; rw [hbt], ⟨?_⟩, HB4⟩
        have e : varint m ++ encAll [] (List.take (k + 1) l) = xs ++ varint n ++ varint (s.extract n s.size).size ++ bytesOf (s.extract n s.size) := by
          rw [HE.out, ← HX.out]
          unfold bytesOf
          rw [HSub.out, ByteArray.size_extract]
          unfold numsT
          simp only [List.append_assoc]
          congr 4
          congr 2
          have := HSz.out; omega
        rw [e]; exact HO4.out
      case measure => simp [intOf]; omega
    · obtain rfl : k = m := by omega
      have HF := Aside0.mk (show varint k ++ encAll [] (l.take k) = dictBytes l by unfold dictBytes; rw [← HM.out, List.take_length])
      rw [HF.out] at HO
      go_wp2_with fail
      go_ret
      exact ⟨_, rfl, HO.out, HB.out⟩
end Go.Proofs.Ytomgfhapmhagnaa.Txt
end

section
namespace Go.Proofs.Ytomgfhapmhagnaa.Txt
set_option linter.unusedVariables false
set_option linter.unusedSimpArgs false
open Go.RowKit Go.Proofs.YtomgfhapmhagnaaW.PrintWords Go.Proofs.YtomgfhapmhagnaaW.PrintLast Go.Proofs.YtomgfhapmhagnaaW.PrintMore Go.Proofs.Ytomgfhapmhagnaa.Lib Go.Proofs.Ytomgfhapmhagnaa.Bas
theorem rises_eq : ∀ {l m : List T}, l.Pairwise (· < ·) → m.Pairwise (· < ·) → (∀ y, y ∈ l ↔ y ∈ m) → l = m
  | [], [], _, _, _ => rfl
  | [], y :: m, _, _, h => absurd ((h y).2 (by simp)) (by simp)
  | x :: l, [], _, _, h => absurd ((h x).1 (by simp)) (by simp)
  | x :: l, y :: m, h1, h2, h => by
    rw [List.pairwise_cons] at h1 h2
    have e : x = y := by
      have a := (h x).1 (by simp)
      have b := (h y).2 (by simp)
      rw [List.mem_cons] at a b
      rcases a with a | a
      · exact a
      · rcases b with b | b
        · exact b.symm
        · exact absurd (lt_trans (h1.1 y b) (h2.1 x a)) (lt_irrefl x)
    subst e
    congr 1
    refine rises_eq h1.2 h2.2 (fun z => ?_)
    constructor
    · intro hz
      have := (h z).1 (by simp [hz])
      rw [List.mem_cons] at this
      rcases this with rfl | h3
      · exact absurd (h1.1 z hz) (lt_irrefl z)
      · exact h3
    · intro hz
      have := (h z).2 (by simp [hz])
      rw [List.mem_cons] at this
      rcases this with rfl | h3
      · exact absurd (h2.1 z hz) (lt_irrefl z)
      · exact h3
theorem build_fit {ts l : List T} (h : build ts = some l) : l = built ts ∧ l.length ≤ 4096 ∧ (∀ t ∈ l, t.length ≤ 64) ∧ l.Pairwise (· < ·) := by
  unfold build at h
  split at h
  · cases h
  · rename_i h1
    split at h
    · cases h
    · rename_i h2
      injection h with h
      subst h
      refine ⟨rfl, by omega, fun t ht => ?_, built_rises ts⟩
      rw [built_mem] at ht
      unfold tooLong at h1
      rw [Bool.not_eq_true, List.any_eq_false] at h1
      have := h1 t ht
      simpa using this
def w4 : List T := [[98], [97, 98], [98], [97, 98, 99]]
def w3 : List T := [[97, 98], [97, 98, 99], [98]]
theorem w3_rises : w3.Pairwise (· < ·) := by unfold w3; decide +kernel
theorem w4_built : built w4 = w3 := by
  refine rises_eq (built_rises _) w3_rises (fun y => ?_)
  rw [built_mem]
  unfold w3 w4
  simp only [List.mem_cons, List.not_mem_nil, or_false]
  constructor <;> (intro h; rcases h with h | h | h | h <;> simp_all) 
theorem w4_build : build w4 = some w3 := by
  unfold build
  rw [w4_built]
  rw [if_neg (by decide +kernel), if_neg (by decide +kernel)]
theorem awake_facts : has w3 [98] = true ∧ fromOf w3 [98] = 2 ∧ fromOf w3 [97, 98] = 0 ∧ runOf w3 [97, 98] = 2 ∧ fromOf w3 [97, 98, 100] = 2 ∧ dictBytes w3 = [3, 0, 2, 97, 98, 2, 1, 99, 0, 1, 98] ∧ w3.getD 0 [] = [97, 98] ∧ w3.length = 3 := by
  refine ⟨?_, ?_, ?_, ?_, ?_, ?_, ?_, ?_⟩ <;> decide +kernel
theorem text_new (w : World) : text.C (w.alloc (.cells #[.string ⟨#[98]⟩, .string ⟨#[97, 98]⟩, .string ⟨#[98]⟩, .string ⟨#[97, 98, 99]⟩] 9)) (some ⟨w.heap.size, 0, none⟩) 4 w4 := by
  refine Kd.C_of_reads (d := []) ⟨rfl, by decide, fun _ => ⟨_, rfl, fun j hj => ?_⟩⟩
  rcases j with _ | _ | _ | _ | j
  · exact show (w.alloc _).cell? ⟨w.heap.size, 0, none⟩ = _ by go_simp <;> rfl
  · exact show (w.alloc _).cell? ⟨w.heap.size, 1, none⟩ = _ by go_simp <;> rfl
  · exact show (w.alloc _).cell? ⟨w.heap.size, 2, none⟩ = _ by go_simp <;> rfl
  · exact show (w.alloc _).cell? ⟨w.heap.size, 3, none⟩ = _ by go_simp <;> rfl
  · omega
set_option maxRecDepth 100000 in
set_option maxHeartbeats 1600000 in
theorem awake_calls (w : World) :
    Calls Try.prog 9 #[] w fun e w' => e = .returned (.bool true) ∧ Below w.heap.size w w' := by
  have HF := Aside0.mk awake_facts
  have htl : (bs [97, 98]).toList = [97, 98] := by rw [ByteArray.toList_eq, bs_data]
  go_enter Try.func9, Try.ntmps9
  go_wp2_with fail
  have HC1 := Aside0.mk (text_new w)
  have HB1 := Aside0.mk (show Below w.heap.size w _ from (Below.refl _ _).alloc (Nat.le_refl _) (.cells #[.string ⟨#[98]⟩, .string ⟨#[97, 98]⟩, .string ⟨#[98]⟩, .string ⟨#[97, 98, 99]⟩] 9))
  generalize w.alloc _ = w1 at *
  refine (build_calls w4 (some ⟨w.heap.size, 0, none⟩) 4 4 w1 HC1.out (by decide)).mono ?_
  rw [w4_build]
  rintro e w2 ⟨⟨g, rfl, hg, hs⟩, hb⟩
  have HS2 := Aside0.mk hs
  have HB2 := Aside0.mk (below_then HB1.out HB1.out.size hb)
  clear hs hb hg
  go_wp2_with fail
  refine (text_calls w2 g w3 HS2.out 0 (by decide)).mono ?_
  rw [HF.out.2.2.2.2.2.2.1]
  rintro e w3' ⟨rfl, rfl⟩
  go_wp2_with fail
  refine (id_calls w2 g w3 ⟨#[98]⟩ HS2.out w3_rises (by decide)).mono ?_
  rw [show (⟨#[98]⟩ : ByteArray).data.toList = [98] from rfl, HF.out.1, if_pos rfl, HF.out.2.1]
  rintro e w4 ⟨rfl, hb⟩
  have HS4 := Aside0.mk (HS2.out.below hb)
  have HB4 := Aside0.mk (below_then HB2.out HB2.out.size hb)
  clear hb HS2 HB2
  go_wp2_with fail
  refine (begin_calls w4 g w3 ⟨#[97, 98]⟩ HS4.out w3_rises (by decide)).mono ?_
  rw [show (⟨#[97, 98]⟩ : ByteArray).data.toList = [97, 98] from rfl, HF.out.2.2.1, HF.out.2.2.2.1]
  rintro e w5 ⟨rfl, hb⟩
  have HS5 := Aside0.mk (HS4.out.below hb)
  have HB5 := Aside0.mk (below_then HB4.out HB4.out.size hb)
  clear hb HS4 HB4
  go_wp2_with fail
  refine (len_calls w5 g w3 HS5.out).mono ?_
  rw [HF.out.2.2.2.2.2.2.2]
  rintro e w6 ⟨rfl, rfl⟩
  go_wp2_with fail
  refine (from_calls w5 g w3 ⟨#[97, 98, 100]⟩ HS5.out w3_rises (by decide)).mono ?_
  rw [show (⟨#[97, 98, 100]⟩ : ByteArray).data.toList = [97, 98, 100] from rfl, HF.out.2.2.2.2.1]
  rintro e w6 ⟨rfl, hb⟩
  have HS6 := Aside0.mk (HS5.out.below hb)
  have HB6 := Aside0.mk (below_then HB5.out HB5.out.size hb)
  clear hb HS5 HB5
  go_wp2_with fail
  refine (bytes_calls w6 g w3 HS6.out (by decide) (by decide)).mono ?_
  rw [HF.out.2.2.2.2.2.1]
  rintro e w7 ⟨v7, rfl, ho, hb⟩
  obtain ⟨A7, c7, rfl, hc7, hC7⟩ := Kd.R_reads ho
  have hs7 := Kd.C_string Try.underlying43 Try.underlying5 Try.underlying9 (c := c7) (show Kd.C (Kd.int .u8) w7 A7 11 [3, 0, 2, 97, 98, 2, 1, 99, 0, 1, 98] from hC7)
  rw [show strOfNums [3, 0, 2, 97, 98, 2, 1, 99, 0, 1, 98] = ⟨#[3, 0, 2, 97, 98, 2, 1, 99, 0, 1, 98]⟩ from rfl] at hs7
  have HB7 := Aside0.mk (below_then HB6.out HB6.out.size hb)
  clear ho hb hC7 HS6 HB6
  go_wp2_with fail
  go_ret
  exact ⟨rfl, HB7.out⟩
end Go.Proofs.Ytomgfhapmhagnaa.Txt
end

section
namespace Go.Proofs.Ytomgfhapmhagnaa.Txt
set_option linter.unusedVariables false
set_option linter.unusedSimpArgs false
open Go.RowKit Go.Proofs.YtomgfhapmhagnaaW.PrintWords Go.Proofs.YtomgfhapmhagnaaW.PrintLast Go.Proofs.YtomgfhapmhagnaaW.PrintMore Go.Proofs.Ytomgfhapmhagnaa.Lib
set_option maxRecDepth 100000 in
set_option maxHeartbeats 400000 in
theorem reffrom_calls (l : List T) (A : Option Addr) (n c : Nat) (s : ByteArray) (w : World) (hC : text.C w A n l) :
    Calls Try.prog 27 #[.slice A n c, .string s] w fun e w' => e = .returned (.int .i64 (fromOf l s.data.toList : Nat)) ∧ w = w' := by
  have HC := Aside0.mk hC
  have HN := Aside0.mk (show l.length = n from hC.1)
  have hn := hC.2.1
  have HI := Aside0.mk (fromOf_is l s.data.toList)
  clear hC
  obtain ⟨r, hr⟩ : ∃ r, fromOf l s.data.toList = r := ⟨_, rfl⟩
  rw [hr] at HI ⊢
  clear hr
  go_enter Try.func27, Try.ntmps27
  go_wp2_with fail
  go_loop [5] (fun kv => ∃ k : Nat, k ≤ n ∧ kv = .int .i64 k ∧ Aside0 (∀ i, i < k → l.getD i [] < s.data.toList)) (fun kv => n - (intOf kv).toNat)
  case atStart => exact ⟨0, Nat.zero_le _, rfl, ⟨fun i hi => by omega⟩⟩
  case round =>
    obtain ⟨k, hk, rfl, HE⟩ := hrel
    by_cases hlt : k < n
    · obtain ⟨ad, e, hcell⟩ := at_text HC.out k hlt
      subst e
      have hki : (k : Int) < (n : Int) := by omega
      by_cases hx : l.getD k [] < s.data.toList
      · have hq : Op.bytesLess (bs (l.getD k [])).toList s.toList = true := by rw [less_is, bs_data]; exact decide_eq_true hx
        have HE2 := Aside0.mk (show ∀ i, i < k + 1 → l.getD i [] < s.data.toList by
          intro i hi
          rcases Nat.lt_succ_iff_lt_or_eq.1 hi with h | rfl
          · exact HE.out i h
          · exact hx)
        clear hx HE
        generalize bs (l.getD k []) = t at *
        go_wp2_with fail
        go_round
        case rel => exact ⟨k + 1, by omega, by go_num, HE2⟩
        case measure => simp [intOf]; omega
      · have hq : Op.bytesLess (bs (l.getD k [])).toList s.toList = false := by rw [less_is, bs_data]; exact decide_eq_false hx
        have HX := Aside0.mk (HI.out k (by rw [HN.out]; exact hk) HE.out (fun _ => hx))
        clear hx HE
        generalize bs (l.getD k []) = t at *
        go_wp2_with fail
        go_ret
        exact ⟨by rw [← HX.out]; rfl, rfl⟩
    · obtain rfl : k = n := by omega
      have HX := Aside0.mk (HI.out k (by rw [HN.out]; exact hk) HE.out (fun h => absurd h (by rw [HN.out]; omega)))
      go_wp2_with fail
      go_ret
      exact ⟨by rw [← HX.out]; rfl, rfl⟩
theorem cut_begins (s p : ByteArray) (h : p.size ≤ s.size) : ((s.extract 0 p.size).toList == p.toList) = begins s.data.toList p.data.toList := by
  rw [begins_take, Bool.eq_iff_iff, beq_iff_eq, decide_eq_true_iff, ByteArray.toList_eq, ByteArray.toList_eq, ByteArray.data_extract, Array.toList_extract, List.extract_eq_take_drop]
  have h1 : p.data.toList.length = p.size := rfl
  have h2 : s.data.toList.length = s.size := rfl
  rw [h1, h2, Nat.sub_zero, List.drop_zero]
  exact ⟨fun h3 => ⟨h, h3⟩, fun h3 => h3.2⟩
theorem off_begins (s p : ByteArray) (h : s.size < p.size) : begins s.data.toList p.data.toList = false := by
  rw [begins_take, decide_eq_false_iff_not]
  have h1 : p.data.toList.length = p.size := rfl
  have h2 : s.data.toList.length = s.size := rfl
  rw [h1, h2]
  omega
set_option maxRecDepth 100000 in
set_option maxHeartbeats 400000 in
theorem refbegins_calls (s p : ByteArray) (w : World) :
    Calls Try.prog 51 #[.string s, .string p] w fun e w' => e = .returned (.bool (begins s.data.toList p.data.toList)) ∧ w = w' := by
  by_cases h : p.size ≤ s.size
  · have hq := cut_begins s p h
    generalize begins s.data.toList p.data.toList = b at *
    go_enter Try.func51, Try.ntmps51
    go_wp2_with fail
    go_ret
    exact ⟨rfl, rfl⟩
  · have h2 : s.size < p.size := by omega
    rw [off_begins s p h2]
    clear h
    go_enter Try.func51, Try.ntmps51
    go_wp2_with fail
    go_ret
    exact ⟨rfl, rfl⟩
set_option maxRecDepth 100000 in
set_option maxHeartbeats 400000 in
theorem refbegin_calls (l : List T) (A : Option Addr) (n c : Nat) (p : ByteArray) (w : World) (hC : text.C w A n l) (hn4 : n ≤ 4611686018427387904) :
    Calls Try.prog 29 #[.slice A n c, .string p] w fun e w' => e = .returned (.tuple #[.int .i64 (fromOf l p.data.toList : Nat), .int .i64 (fromOf l p.data.toList + runOf l p.data.toList : Nat)]) ∧ w = w' := by
  have HC := Aside0.mk hC
  have HN := Aside0.mk (show l.length = n from hC.1)
  have HF := Aside0.mk (reffrom_calls l A n c p w hC)
  have HI := Aside0.mk (run_is l p.data.toList)
  have hfl := fromOf_le l p.data.toList
  rw [HN.out] at hfl
  clear hC
  generalize runOf l p.data.toList = r at *
  generalize fromOf l p.data.toList = lo at *
  go_enter Try.func29, Try.ntmps29
  go_wp2_with fail
  refine HF.out.mono ?_
  rintro e w1 ⟨rfl, rfl⟩
  go_wp2_with fail
  go_loopw [7] (fun kv w' => ∃ k : Nat, lo + k ≤ n ∧ kv = .int .i64 ((lo + k : Nat) : Int) ∧ Aside0 (∀ i, i < k → begins (l.getD (lo + i) []) p.data.toList = true) ∧ w = w') (fun kv _ => n - (intOf kv).toNat)
  case atStart => exact ⟨0, hfl, rfl, ⟨fun i hi => by omega⟩, (by first | trivial | rfl)⟩
  case round =>
    obtain ⟨k, hk, rfl, HE, rfl⟩ := hrel
    obtain ⟨j, hj⟩ : ∃ j, lo + k = j := ⟨_, rfl⟩
    have HJ := Aside0.mk hj
    rw [hj] at hk ⊢
    clear hj
    by_cases hlt : j < n
    · obtain ⟨ad, e, hcell⟩ := at_text HC.out j hlt
      subst e
      have hki : (j : Int) < (n : Int) := by omega
      have HB := Aside0.mk (refbegins_calls (bs (l.getD j [])) p w)
      rw [bs_data] at HB
      generalize hbt : bs (l.getD j []) = t at *
      clear hbt
      cases hx : begins (l.getD j []) p.data.toList
      case true =>
        rw [hx] at HB
        have HE2 := Aside0.mk (show ∀ i, i < k + 1 → begins (l.getD (lo + i) []) p.data.toList = true by
          intro i hi
          rcases Nat.lt_succ_iff_lt_or_eq.1 hi with h | rfl
          · exact HE.out i h
          · rw [HJ.out]; exact hx)
        clear hx HE
        go_wp2_with fail
        refine HB.out.mono ?_
        rintro e w1 ⟨rfl, rfl⟩
        go_wp2_with fail
        go_roundw
        case rel => exact ⟨k + 1, by have := HJ.out; omega, by have := HJ.out; rw [show lo + (k + 1) = j + 1 by omega]; go_num, HE2, (by first | trivial | rfl)⟩
        case measure => simp [intOf]; omega
      case false =>
        rw [hx] at HB
        have HX := Aside0.mk (HI.out k (by rw [HN.out, HJ.out]; exact hk) HE.out (fun _ => by rw [HJ.out]; exact hx))
        clear hx HE
        go_wp2_with fail
        refine HB.out.mono ?_
        rintro e w1 ⟨rfl, rfl⟩
        go_wp2_with fail
        go_ret2
        exact ⟨by rw [← HX.out, HJ.out]; rfl, rfl⟩
    · obtain rfl : j = n := by omega
      have HX := Aside0.mk (HI.out k (by rw [HN.out, HJ.out]; exact hk) HE.out (fun h => absurd h (by rw [HN.out, HJ.out]; omega)))
      go_wp2_with fail
      go_ret2
      exact ⟨by rw [← HX.out, HJ.out]; rfl, rfl⟩
end Go.Proofs.Ytomgfhapmhagnaa.Txt
end

section
namespace Go.Proofs.Ytomgfhapmhagnaa.Bas
set_option linter.unusedVariables false
set_option linter.unusedSimpArgs false
open Go.RowKit Go.Proofs.YtomgfhapmhagnaaW.PrintWords Go.Proofs.YtomgfhapmhagnaaW.PrintLast Go.Proofs.YtomgfhapmhagnaaW.PrintMore Go.Proofs.Ytomgfhapmhagnaa.Lib
set_option maxRecDepth 100000 in
set_option maxHeartbeats 400000 in
theorem refuint_calls (n : Int) (w : World) (h0 : 0 ≤ n) (hn : n < 18446744073709551616) :
    Calls Try.prog 19 #[.int .u64 n] w fun e w' => ∃ v, e = .returned v ∧ Kd.R (Kd.int .u8) 5 w' w.heap.size (fun _ => True) v (varint n.toNat) ∧ Below w.heap.size w w' := by
  obtain ⟨n, rfl⟩ := Int.eq_ofNat_of_zero_le h0
  rw [Int.toNat_natCast]
  have hn : n < 18446744073709551616 := by omega
  have hv := varint_le10 hn
  clear h0
  go_enter Try.func19, Try.ntmps19
  go_wp2
  go_loopw [0, 3] (fun x v w' => ∃ (m : Nat) (acc : List Int), x = .int .u64 m ∧ m < 18446744073709551616 ∧ Aside0 (acc ++ varint m = varint n) ∧ Aside0 (Kd.R (Kd.int .u8) 5 w' w.heap.size (fun _ => True) v acc) ∧ Aside0 (Below w.heap.size w w')) (fun x _ _ => (intOf x).toNat)
  case atStart => exact ⟨n, [], rfl, hn, ⟨rfl⟩, ⟨Kd.R_nil _ _ _ _ _⟩, ⟨Below.refl _ _⟩⟩
  case round =>
    obtain ⟨m, acc, rfl, hm, HE, HO, HB⟩ := hrel
    have hlen : acc.length + (varint m).length ≤ 10 := by
      have := congrArg List.length HE.out
      simp only [List.length_append] at this
      omega
    by_cases hbig : 128 ≤ m
    · rw [varint_big hbig] at HE hlen
      have hq : m / 128 < m := by omega
      have hd : (m : Int) / 128 = ((m / 128 : Nat) : Int) := by omega
      have hz : ((m / 128 : Nat) : Int) ≠ 0 := by omega
      have hz1 : (((m / 128 : Nat) : Int) == 0) = false := beq_eq_false_iff_ne.2 hz
      have hb : (m : Int) % 128 = ((m % 128 : Nat) : Int) := by omega
      have hb2 : ((m % 128 : Nat) : Int) + 128 = ((m % 128 + 128 : Nat) : Int) := by omega
      have hlt : m % 128 < 128 := Nat.mod_lt _ (by decide)
      clear hz
      generalize m / 128 = m2 at *
      generalize m % 128 = lo at *
      rw [List.length_cons] at hlen
      have HE2 := Aside0.mk ((List.append_assoc acc [((lo + 128 : Nat) : Int)] (varint m2)).trans HE.out)
      clear HE
      generalize ((lo + 128 : Nat) : Int) = hi at *
      go_wp2_with (first
        | ((with_reducible refine gate_builtin (b := .append) (xs := #[.tmp 16, .tmp 19]) rfl ?_); at_builtin; refine Kd.R_append (Kd.int .u8) (w0 := w) w.heap.size rfl (.tmp 16) (.tmp 19) 43 5 (.int .u8 0) 1 rfl Try.underlying43 info5 rfl (by decide) (by omega) (_) (acc) (hi) [.int .u8 (hi)] (fun _ => True) (fun _ => False) rfl rfl rfl (fun _ hk => hk.elim) (fun _ _ => trivial) HO.out HB.out HB.out.size (by omega) ?_; intro v2 w2 ho2 hb2 hg2 ha2; have HO2 := Aside0.mk ho2; have HB2 := Aside0.mk hb2; clear ho2 hb2 hg2 ha2)
        | fail)
      go_roundw
      case rel => exact ⟨m2, acc ++ [hi], rfl, by omega, HE2, HO2, HB2⟩
      case measure => simp [intOf]; omega
    · have hs := varint_small (show m < 128 by omega)
      rw [hs] at HE hlen
      rw [List.length_singleton] at hlen
      have hd : (m : Int) / 128 = 0 := by omega
      have hb : (m : Int) % 128 = (m : Int) := by omega
      go_wp2_with (first
        | ((with_reducible refine gate_builtin (b := .append) (xs := #[.tmp 12, .tmp 14]) rfl ?_); at_builtin; refine Kd.R_append (Kd.int .u8) (w0 := w) w.heap.size rfl (.tmp 12) (.tmp 14) 43 5 (.int .u8 0) 1 rfl Try.underlying43 info5 rfl (by decide) (by omega) (_) (acc) (m) [.int .u8 (m)] (fun _ => True) (fun _ => False) rfl rfl rfl (fun _ hk => hk.elim) (fun _ _ => trivial) HO.out HB.out HB.out.size (by omega) ?_; intro v2 w2 ho2 hb2 hg2 ha2; have HO2 := Aside0.mk ho2; have HB2 := Aside0.mk hb2; clear ho2 hb2 hg2 ha2)
        | fail)
      go_ret
      exact ⟨_, rfl, by rw [← HE.out]; exact HO2.out, HB2.out⟩
set_option maxRecDepth 100000 in
set_option maxHeartbeats 400000 in
theorem reftext_calls (s : ByteArray) (w : World) (hl : 10 + s.size ≤ 140737488355328) :
    Calls Try.prog 50 #[.string s] w fun e w' => ∃ v, e = .returned v ∧ Kd.R (Kd.int .u8) 5 w' w.heap.size (fun _ => True) v (varint s.size ++ bytesOf s) ∧ Below w.heap.size w w' := by
  go_enter Try.func50, Try.ntmps50
  go_wp2_with fail
  refine (refuint_calls s.size w (by omega) (by omega)).mono ?_
  rintro e w1 ⟨v, rfl, ho, hb⟩
  rw [Int.toNat_natCast] at ho
  have hv := varint_le10 (show s.size < 18446744073709551616 by omega)
  have HO := Aside0.mk (Kd.own_of_R (enc := Value.int .u8) (h1 := fun _ => rfl) ho)
  have HB := Aside0.mk hb
  clear ho hb
  go_wp2_with (first
    | ((with_reducible refine gate_builtin (b := .append) (xs := #[.tmp 8, .tmp 9]) rfl ?_); at_builtin; refine print_append_str (w0 := w) w.heap.size rfl (.tmp 8) (.tmp 9) 43 9 5 rfl Try.underlying43 Try.underlying9 info5 _ (varint s.size) s rfl rfl HO.out HB.out HB.out.size ?aL ?_; (case aL => omega); intro v3 w3 ho3 hb3 hg3; have HO3 := Aside0.mk ho3; have HB3 := Aside0.mk hb3; clear ho3 hb3 hg3)
    | fail)
  go_ret
  exact ⟨_, rfl, Kd.R_of_own (enc := Value.int .u8) (h1 := fun _ => rfl) HO3.out (fun _ _ => trivial), HB3.out⟩
end Go.Proofs.Ytomgfhapmhagnaa.Bas
end

section
namespace Go.Proofs.Ytomgfhapmhagnaa.Txt
set_option linter.unusedVariables false
set_option linter.unusedSimpArgs false
open Go.RowKit Go.Proofs.YtomgfhapmhagnaaW.PrintWords Go.Proofs.YtomgfhapmhagnaaW.PrintLast Go.Proofs.YtomgfhapmhagnaaW.PrintMore Go.Proofs.Ytomgfhapmhagnaa.Lib Go.Proofs.Ytomgfhapmhagnaa.Bas
theorem byte_bs (t : T) (i : Nat) (h : i < (bs t).size) : (bs t)[i] = t.getD i 0 := byte_getD (bs t) i h
set_option maxRecDepth 100000 in
set_option maxHeartbeats 3200000 in
theorem refbytes_calls (l : List T) (A : Option Addr) (m c : Nat) (w : World) (hC : text.C w A m l) (hl : m ≤ 4096) (ht : ∀ t ∈ l, t.length ≤ 64) :
    Calls Try.prog 28 #[.slice A m c] w fun e w' => ∃ v, e = .returned v ∧ Kd.R (Kd.int .u8) 5 w' w.heap.size (fun _ => True) v (dictBytes l) ∧ Below w.heap.size w w' := by
  have HC := Aside0.mk hC
  have HT := Aside0.mk ht
  have HM := Aside0.mk (show l.length = m from hC.1)
  have hmw : IntKind.u64.wrap (m : Int) = (m : Int) := by rw [IntKind.wrap_u64]; omega
  clear hC ht
  go_enter Try.func28, Try.ntmps28
  go_wp2_with fail
  refine (refuint_calls m w (by omega) (by omega)).mono ?_
  rintro e w1 ⟨v1, rfl, ho, hb⟩
  rw [Int.toNat_natCast] at ho
  have HO1 := Aside0.mk ho
  have HB1 := Aside0.mk hb
  clear ho hb
  go_wp2_with fail
  go_loopw [3, 4] (fun ov kv w' => ∃ k : Nat, k ≤ m ∧ kv = .int .i64 k ∧ Aside0 (Kd.R (Kd.int .u8) 5 w' w.heap.size (fun _ => True) ov (varint m ++ encAll [] (l.take k))) ∧ Aside0 (Below w.heap.size w w')) (fun _ kv _ => m - (intOf kv).toNat)
  case atStart => exact ⟨0, Nat.zero_le _, rfl, ⟨by rw [List.take_zero]; simpa [encAll] using HO1.out⟩, HB1⟩
  case round =>
    clear HO1 HB1
    obtain ⟨k, hk, rfl, HO, HB⟩ := hrel
    by_cases hlt : k < m
    · have HK := Aside0.mk (show k < l.length by have := HM.out; omega)
      obtain ⟨ad, e, -⟩ := at_text (Kd.C_below HC.out HB.out) k hlt
      subst e
      have HCell := Aside0.mk (show ∀ w', Below w.heap.size w w' → w'.cell? (ad.add k) = some (.string (bs (l.getD k []))) by
        intro w' h
        obtain ⟨ad1, e1, hc1⟩ := at_text (Kd.C_below HC.out h) k hlt
        cases e1
        exact hc1)
      have hki : (k : Int) < (m : Int) := by omega
      have htl := HT.out (l.getD k []) (by rw [List.getD_eq_getElem?_getD, List.getElem?_eq_getElem HK.out]; exact List.getElem_mem _)
      have hll := lastT_le l k HT.out
      have hsh := sharedOf_le (lastT l k) (l.getD k [])
      have HI := Aside0.mk (shared_is (lastT l k) (l.getD k []))
      have HE := Aside0.mk (encAll_take l k HK.out)
      have HSub := Aside0.mk (sub_text (l.getD k []) (sharedOf (lastT l k) (l.getD k [])) hsh.2)
      have hsz := bs_size (l.getD k [])
      have hsz2 := bs_size (lastT l k)
      have HEl := Aside0.mk (encAll_le [] (l.take k) (fun t h => HT.out t (List.mem_of_mem_take h)))
      have hv := varint_le10 (show m < 18446744073709551616 by omega)
      have hxl : (varint m ++ encAll [] (List.take k l)).length ≤ 10 + 84 * 4096 := by
        have := HEl.out; rw [List.length_append]; have := List.length_take_le k l; omega
      clear HEl hv
      unfold encOne at HE
      have HBt := Aside0.mk (byte_bs (l.getD k []))
      have HBw := Aside0.mk (byte_bs (lastT l k))
      have hprev : k = 0 ∨ ∃ k1, k = k1 + 1 ∧ ∀ w', Below w.heap.size w w' → w'.cell? (ad.add k1) = some (.string (bs (lastT l k))) := by
        rcases Nat.eq_zero_or_pos k with h | h
        · exact .inl h
        · obtain ⟨k1, rfl⟩ : ∃ k1, k = k1 + 1 := ⟨k - 1, by omega⟩
          refine .inr ⟨k1, rfl, fun w' h => ?_⟩
          obtain ⟨ad1, e1, hc1⟩ := at_text (Kd.C_below HC.out h) k1 (by omega)
          cases e1
          rw [lastT_succ l k1 (by have := HM.out; omega)]
          exact hc1
      have hw0 : k = 0 → lastT l k = [] := fun h => by rw [h]; rfl
      generalize hwas : lastT l k = was at *
      generalize htt : l.getD k [] = t at *
      generalize hsn : sharedOf was t = n at *
      generalize hxs : varint m ++ encAll [] (List.take k l) = xs at *
      have HX := Aside0.mk hxs
      have HSn := Aside0.mk hsn
      clear hwas htt hsn hxs
      generalize bs t = s at *
      generalize bs was = sw at *
      have HSz := Aside0.mk hsz
      have HSz2 := Aside0.mk hsz2
      have htl2 : s.size ≤ 64 := by omega
      have hll2 : sw.size ≤ 64 := by omega
      obtain ⟨wo, hwo⟩ : ∃ wo, wo = wr := ⟨_, rfl⟩
      subst hwo
      clear hsz hsz2 htl hll hlt
      obtain ⟨A2, c2, rfl, -, -⟩ := Kd.R_reads HO.out
      go_wp2_with fail
      go_loopw [5] (fun nv w' => ∃ j : Nat, j ≤ was.length ∧ j ≤ t.length ∧ nv = .int .i64 j ∧ Aside0 (∀ i, i < j → was.getD i 0 = t.getD i 0) ∧ Aside0 (Drawn0 wo w')) (fun nv _ => t.length - (intOf nv).toNat)
      case atStart => exact ⟨0, Nat.zero_le _, Nat.zero_le _, rfl, ⟨fun i hi => by omega⟩, ⟨Drawn0.refl _⟩⟩
      case round =>
        obtain ⟨j, hj1, hj2, rfl, HP, HD⟩ := hrel
        have HBv := Aside0.mk (below_then HB.out HB.out.size HD.out.below)
        have hc1 := HCell.out _ HBv.out
        rcases hprev with hk0 | ⟨k1, hk1, hcw⟩
        · have hj0 : j = 0 := by have := hw0 hk0; rw [this] at hj1; simpa using hj1
          have hn0 : n = 0 := by have := hw0 hk0; rw [this] at hsh; simpa using hsh.1
          have hk2 : decide (0 < k) = false := decide_eq_false (by omega)
          have hjn : j = n := by omega
          subst hjn
          clear hj0 hn0 hk0 hw0
          have hjs : j ≤ s.size := by have := HSz.out; omega
          have hjw : IntKind.u64.wrap (j : Int) = (j : Int) := by rw [IntKind.wrap_u64]; omega
          have HO2 := Aside0.mk (Kd.R_below HO.out HD.out.below)
          clear HI HD HP hsh
          go_wp2_with fail
          go_quiet (fail)
          go_wp2_with fail
          refine (refuint_calls j _ (by omega) (by omega)).mono ?_
          rintro e w5 ⟨v5, rfl, ho, hb⟩
          rw [Int.toNat_natCast] at ho
          obtain ⟨A5, c5, rfl, hc5, hC5⟩ := Kd.R_reads ho
          have HBd := Aside0.mk (pw_below_drewN HBv.out nq)
          have HOd := Aside0.mk (Kd.R_below HO2.out (pw_below_drewN (Below.refl _ _) nq))
          have HB5 := Aside0.mk (below_then HBd.out HBd.out.size hb)
          have HO5 := Aside0.mk (Kd.R_below HOd.out hb)
          have HC5 := Aside0.mk hC5
          have hvj := varint_le10 (show j < 18446744073709551616 by omega)
          clear ho hb hc5 hC5 HBd HOd HO2 hc1
          go_wp2_with (first
            | (((with_reducible refine gate_builtin (b := .append) (xs := #[.tmp 55, .tmp 58]) rfl ?_); at_builtin; refine Kd.R_append_rows (Kd.int .u8) (w0 := w) w.heap.size rfl (.tmp 55) (.tmp 58) 43 5 (.int .u8 0) 1 rfl Try.underlying43 info5 rfl (by decide) (by omega) (.slice A2 xs.length c2) (xs) (varint j) (A5) (varint j).length (c5) (fun _ => True) (fun _ => False) rfl rfl HO5.out HC5.out (fun _ _ h => h) (fun _ h => h.elim) (fun _ _ => trivial) HB5.out HB5.out.size (by omega) ?_; intro v6 w6 ho6 hb6 hg6 ha6; have HO6 := Aside0.mk ho6; have HB6 := Aside0.mk hb6; clear ho6 hb6 hg6 ha6); have hc6 := HCell.out _ HB6.out)
            | fail)
          refine (reftext_calls (s.extract j s.size) _ (by rw [ByteArray.size_extract]; omega)).mono ?_
          rintro e w7 ⟨v7, rfl, ho, hb⟩
          obtain ⟨A7, c7, rfl, hc7, hC7⟩ := Kd.R_reads ho
          have HB7 := Aside0.mk (below_then HB6.out HB6.out.size hb)
          have HO7 := Aside0.mk (Kd.R_below HO6.out hb)
          have hyl : (varint (s.extract j s.size).size ++ bytesOf (s.extract j s.size)).length ≤ 74 := by
            have h1 := varint_le10 (show (s.extract j s.size).size < 18446744073709551616 by rw [ByteArray.size_extract]; omega)
            have h2 : (bytesOf (s.extract j s.size)).length = (s.extract j s.size).size := by unfold bytesOf; rw [List.length_map]; rfl
            rw [List.length_append, h2]
            rw [ByteArray.size_extract] at h1 ⊢
            omega
          have HE2 := Aside0.mk (show xs ++ varint j ++ (varint (s.extract j s.size).size ++ bytesOf (s.extract j s.size)) = varint m ++ encAll [] (List.take (k + 1) l) by
            rw [HE.out, ← HX.out]
            unfold bytesOf
            rw [HSub.out, ByteArray.size_extract]
            unfold numsT
            simp only [List.append_assoc]
            congr 4
            congr 2
            have := HSz.out; omega)
          clear HE HX HSub
          generalize varint (s.extract j s.size).size ++ bytesOf (s.extract j s.size) = ys at *
          have HC7 := Aside0.mk hC7
          clear ho hb hc7 hC7 HO6 HB6
          go_wp2_with (first
            | ((with_reducible refine gate_builtin (b := .append) (xs := #[.tmp 60, .tmp 67]) rfl ?_); at_builtin; refine Kd.R_append_rows (Kd.int .u8) (w0 := w) w.heap.size rfl (.tmp 60) (.tmp 67) 43 5 (.int .u8 0) 1 rfl Try.underlying43 info5 rfl (by decide) (by omega) (v6) (xs ++ varint j) (ys) (A7) (ys).length (c7) (fun _ => True) (fun _ => False) rfl rfl HO7.out HC7.out (fun _ _ h => h) (fun _ h => h.elim) (fun _ _ => trivial) HB7.out HB7.out.size (by rw [List.length_append]; omega) ?_; intro v8 w8 ho8 hb8 hg8 ha8; have HO8 := Aside0.mk ho8; have HB8 := Aside0.mk hb8; clear ho8 hb8 hg8 ha8)
            | fail)
          go_roundw
          case rel => exact ⟨k + 1, by omega, by go_num, ⟨by rw [← HE2.out]; exact HO8.out⟩, HB8⟩
          case measure => simp [intOf]; omega
        · have hcw1 := hcw wr HBv.out
          have hsub : IntKind.i64.wrap ((k : Int) - 1) = (k1 : Int) := by rw [IntKind.wrap_i64]; omega
          have hk2 : decide (0 < k) = true := decide_eq_true (by omega)
          have hk1i : (k1 : Int) < (m : Int) := by omega
          clear hk1 hw0
          by_cases hjs1 : j < s.size
          · by_cases hjw1 : j < sw.size
            · have e1 := HBt.out j hjs1
              have e2 := HBw.out j hjw1
              by_cases he : was.getD j 0 = t.getD j 0
              · have HP2 := Aside0.mk (show ∀ i, i < j + 1 → was.getD i 0 = t.getD i 0 by
                  intro i hi
                  rcases Nat.lt_succ_iff_lt_or_eq.1 hi with h | rfl
                  · exact HP.out i h
                  · exact he)
                have hq : (((s[j].toNat : Nat) : Int) == ((sw[j].toNat : Nat) : Int)) = true := by rw [e1, e2, he]; simp
                have hb1 : j + 1 ≤ was.length := by have := HSz2.out; omega
                have hb2 : j + 1 ≤ t.length := by have := HSz.out; omega
                clear e1 e2 he HP
                go_wp2_with fail
                go_quiet (fail)
                go_wp2_with fail
                go_roundw
                case rel => exact ⟨j + 1, hb1, hb2, by go_num, HP2, ⟨HD.out.step _⟩⟩
                case measure => simp [intOf]; omega
              · obtain rfl : j = n := HI.out j hj1 hj2 HP.out (fun _ _ => he)
                have hq : (((s[j].toNat : Nat) : Int) == ((sw[j].toNat : Nat) : Int)) = false := by
                  rw [e1, e2, beq_eq_false_iff_ne]
                  exact fun h => he (UInt8.toNat_inj.1 (by omega))
                clear e1 e2 he
                have hjs : j ≤ s.size := by have := HSz.out; omega
                have hjw : IntKind.u64.wrap (j : Int) = (j : Int) := by rw [IntKind.wrap_u64]; omega
                have HO2 := Aside0.mk (Kd.R_below HO.out HD.out.below)
                clear HI HD HP hsh
                go_wp2_with fail
                go_quiet (fail)
                go_wp2_with fail
                refine (refuint_calls j _ (by omega) (by omega)).mono ?_
                rintro e w5 ⟨v5, rfl, ho, hb⟩
                rw [Int.toNat_natCast] at ho
                obtain ⟨A5, c5, rfl, hc5, hC5⟩ := Kd.R_reads ho
                have HBd := Aside0.mk (pw_below_drewN HBv.out nq)
                have HOd := Aside0.mk (Kd.R_below HO2.out (pw_below_drewN (Below.refl _ _) nq))
                have HB5 := Aside0.mk (below_then HBd.out HBd.out.size hb)
                have HO5 := Aside0.mk (Kd.R_below HOd.out hb)
                have HC5 := Aside0.mk hC5
                have hvj := varint_le10 (show j < 18446744073709551616 by omega)
                clear ho hb hc5 hC5 HBd HOd HO2 hc1
                go_wp2_with (first
                  | (((with_reducible refine gate_builtin (b := .append) (xs := #[.tmp 55, .tmp 58]) rfl ?_); at_builtin; refine Kd.R_append_rows (Kd.int .u8) (w0 := w) w.heap.size rfl (.tmp 55) (.tmp 58) 43 5 (.int .u8 0) 1 rfl Try.underlying43 info5 rfl (by decide) (by omega) (.slice A2 xs.length c2) (xs) (varint j) (A5) (varint j).length (c5) (fun _ => True) (fun _ => False) rfl rfl HO5.out HC5.out (fun _ _ h => h) (fun _ h => h.elim) (fun _ _ => trivial) HB5.out HB5.out.size (by omega) ?_; intro v6 w6 ho6 hb6 hg6 ha6; have HO6 := Aside0.mk ho6; have HB6 := Aside0.mk hb6; clear ho6 hb6 hg6 ha6); have hc6 := HCell.out _ HB6.out)
                  | fail)
                refine (reftext_calls (s.extract j s.size) _ (by rw [ByteArray.size_extract]; omega)).mono ?_
                rintro e w7 ⟨v7, rfl, ho, hb⟩
                obtain ⟨A7, c7, rfl, hc7, hC7⟩ := Kd.R_reads ho
                have HB7 := Aside0.mk (below_then HB6.out HB6.out.size hb)
                have HO7 := Aside0.mk (Kd.R_below HO6.out hb)
                have hyl : (varint (s.extract j s.size).size ++ bytesOf (s.extract j s.size)).length ≤ 74 := by
                  have h1 := varint_le10 (show (s.extract j s.size).size < 18446744073709551616 by rw [ByteArray.size_extract]; omega)
                  have h2 : (bytesOf (s.extract j s.size)).length = (s.extract j s.size).size := by unfold bytesOf; rw [List.length_map]; rfl
                  rw [List.length_append, h2]
                  rw [ByteArray.size_extract] at h1 ⊢
                  omega
                have HE2 := Aside0.mk (show xs ++ varint j ++ (varint (s.extract j s.size).size ++ bytesOf (s.extract j s.size)) = varint m ++ encAll [] (List.take (k + 1) l) by
                  rw [HE.out, ← HX.out]
                  unfold bytesOf
                  rw [HSub.out, ByteArray.size_extract]
                  unfold numsT
                  simp only [List.append_assoc]
                  congr 4
                  congr 2
                  have := HSz.out; omega)
                clear HE HX HSub
                generalize varint (s.extract j s.size).size ++ bytesOf (s.extract j s.size) = ys at *
                have HC7 := Aside0.mk hC7
                clear ho hb hc7 hC7 HO6 HB6
                go_wp2_with (first
                  | ((with_reducible refine gate_builtin (b := .append) (xs := #[.tmp 60, .tmp 67]) rfl ?_); at_builtin; refine Kd.R_append_rows (Kd.int .u8) (w0 := w) w.heap.size rfl (.tmp 60) (.tmp 67) 43 5 (.int .u8 0) 1 rfl Try.underlying43 info5 rfl (by decide) (by omega) (v6) (xs ++ varint j) (ys) (A7) (ys).length (c7) (fun _ => True) (fun _ => False) rfl rfl HO7.out HC7.out (fun _ _ h => h) (fun _ h => h.elim) (fun _ _ => trivial) HB7.out HB7.out.size (by rw [List.length_append]; omega) ?_; intro v8 w8 ho8 hb8 hg8 ha8; have HO8 := Aside0.mk ho8; have HB8 := Aside0.mk hb8; clear ho8 hb8 hg8 ha8)
                  | fail)
                go_roundw
                case rel => exact ⟨k + 1, by omega, by go_num, ⟨by rw [← HE2.out]; exact HO8.out⟩, HB8⟩
                case measure => simp [intOf]; omega
            · obtain rfl : j = n := HI.out j hj1 hj2 HP.out (fun h => absurd h (by have := HSz2.out; omega))
              have hd : decide ((j : Int) < (sw.size : Int)) = false := decide_eq_false (by omega)
              have hjs : j ≤ s.size := by have := HSz.out; omega
              have hjw : IntKind.u64.wrap (j : Int) = (j : Int) := by rw [IntKind.wrap_u64]; omega
              have HO2 := Aside0.mk (Kd.R_below HO.out HD.out.below)
              clear HI HD HP hsh
              go_wp2_with fail
              go_quiet (fail)
              go_wp2_with fail
              refine (refuint_calls j _ (by omega) (by omega)).mono ?_
              rintro e w5 ⟨v5, rfl, ho, hb⟩
              rw [Int.toNat_natCast] at ho
              obtain ⟨A5, c5, rfl, hc5, hC5⟩ := Kd.R_reads ho
              have HBd := Aside0.mk (pw_below_drewN HBv.out nq)
              have HOd := Aside0.mk (Kd.R_below HO2.out (pw_below_drewN (Below.refl _ _) nq))
              have HB5 := Aside0.mk (below_then HBd.out HBd.out.size hb)
              have HO5 := Aside0.mk (Kd.R_below HOd.out hb)
              have HC5 := Aside0.mk hC5
              have hvj := varint_le10 (show j < 18446744073709551616 by omega)
              clear ho hb hc5 hC5 HBd HOd HO2 hc1
              go_wp2_with (first
                | (((with_reducible refine gate_builtin (b := .append) (xs := #[.tmp 55, .tmp 58]) rfl ?_); at_builtin; refine Kd.R_append_rows (Kd.int .u8) (w0 := w) w.heap.size rfl (.tmp 55) (.tmp 58) 43 5 (.int .u8 0) 1 rfl Try.underlying43 info5 rfl (by decide) (by omega) (.slice A2 xs.length c2) (xs) (varint j) (A5) (varint j).length (c5) (fun _ => True) (fun _ => False) rfl rfl HO5.out HC5.out (fun _ _ h => h) (fun _ h => h.elim) (fun _ _ => trivial) HB5.out HB5.out.size (by omega) ?_; intro v6 w6 ho6 hb6 hg6 ha6; have HO6 := Aside0.mk ho6; have HB6 := Aside0.mk hb6; clear ho6 hb6 hg6 ha6); have hc6 := HCell.out _ HB6.out)
                | fail)
              refine (reftext_calls (s.extract j s.size) _ (by rw [ByteArray.size_extract]; omega)).mono ?_
              rintro e w7 ⟨v7, rfl, ho, hb⟩
              obtain ⟨A7, c7, rfl, hc7, hC7⟩ := Kd.R_reads ho
              have HB7 := Aside0.mk (below_then HB6.out HB6.out.size hb)
              have HO7 := Aside0.mk (Kd.R_below HO6.out hb)
              have hyl : (varint (s.extract j s.size).size ++ bytesOf (s.extract j s.size)).length ≤ 74 := by
                have h1 := varint_le10 (show (s.extract j s.size).size < 18446744073709551616 by rw [ByteArray.size_extract]; omega)
                have h2 : (bytesOf (s.extract j s.size)).length = (s.extract j s.size).size := by unfold bytesOf; rw [List.length_map]; rfl
                rw [List.length_append, h2]
                rw [ByteArray.size_extract] at h1 ⊢
                omega
              have HE2 := Aside0.mk (show xs ++ varint j ++ (varint (s.extract j s.size).size ++ bytesOf (s.extract j s.size)) = varint m ++ encAll [] (List.take (k + 1) l) by
                rw [HE.out, ← HX.out]
                unfold bytesOf
                rw [HSub.out, ByteArray.size_extract]
                unfold numsT
                simp only [List.append_assoc]
                congr 4
                congr 2
                have := HSz.out; omega)
              clear HE HX HSub
              generalize varint (s.extract j s.size).size ++ bytesOf (s.extract j s.size) = ys at *
              have HC7 := Aside0.mk hC7
              clear ho hb hc7 hC7 HO6 HB6
              go_wp2_with (first
                | ((with_reducible refine gate_builtin (b := .append) (xs := #[.tmp 60, .tmp 67]) rfl ?_); at_builtin; refine Kd.R_append_rows (Kd.int .u8) (w0 := w) w.heap.size rfl (.tmp 60) (.tmp 67) 43 5 (.int .u8 0) 1 rfl Try.underlying43 info5 rfl (by decide) (by omega) (v6) (xs ++ varint j) (ys) (A7) (ys).length (c7) (fun _ => True) (fun _ => False) rfl rfl HO7.out HC7.out (fun _ _ h => h) (fun _ h => h.elim) (fun _ _ => trivial) HB7.out HB7.out.size (by rw [List.length_append]; omega) ?_; intro v8 w8 ho8 hb8 hg8 ha8; have HO8 := Aside0.mk ho8; have HB8 := Aside0.mk hb8; clear ho8 hb8 hg8 ha8)
                | fail)
              go_roundw
              case rel => exact ⟨k + 1, by omega, by go_num, ⟨by rw [← HE2.out]; exact HO8.out⟩, HB8⟩
              case measure => simp [intOf]; omega
          · obtain rfl : j = n := HI.out j hj1 hj2 HP.out (fun _ h => absurd h (by have := HSz.out; omega))
            have hd : decide ((j : Int) < (s.size : Int)) = false := decide_eq_false (by omega)
            have hjs : j ≤ s.size := by have := HSz.out; omega
            have hjw : IntKind.u64.wrap (j : Int) = (j : Int) := by rw [IntKind.wrap_u64]; omega
            have HO2 := Aside0.mk (Kd.R_below HO.out HD.out.below)
            clear HI HD HP hsh
            go_wp2_with fail
            go_quiet (fail)
            go_wp2_with fail
            refine (refuint_calls j _ (by omega) (by omega)).mono ?_
            rintro e w5 ⟨v5, rfl, ho, hb⟩
            rw [Int.toNat_natCast] at ho
            obtain ⟨A5, c5, rfl, hc5, hC5⟩ := Kd.R_reads ho
            have HBd := Aside0.mk (pw_below_drewN HBv.out nq)
            have HOd := Aside0.mk (Kd.R_below HO2.out (pw_below_drewN (Below.refl _ _) nq))
            have HB5 := Aside0.mk (below_then HBd.out HBd.out.size hb)
            have HO5 := Aside0.mk (Kd.R_below HOd.out hb)
            have HC5 := Aside0.mk hC5
            have hvj := varint_le10 (show j < 18446744073709551616 by omega)
            clear ho hb hc5 hC5 HBd HOd HO2 hc1
            go_wp2_with (first
              | (((with_reducible refine gate_builtin (b := .append) (xs := #[.tmp 55, .tmp 58]) rfl ?_); at_builtin; refine Kd.R_append_rows (Kd.int .u8) (w0 := w) w.heap.size rfl (.tmp 55) (.tmp 58) 43 5 (.int .u8 0) 1 rfl Try.underlying43 info5 rfl (by decide) (by omega) (.slice A2 xs.length c2) (xs) (varint j) (A5) (varint j).length (c5) (fun _ => True) (fun _ => False) rfl rfl HO5.out HC5.out (fun _ _ h => h) (fun _ h => h.elim) (fun _ _ => trivial) HB5.out HB5.out.size (by omega) ?_; intro v6 w6 ho6 hb6 hg6 ha6; have HO6 := Aside0.mk ho6; have HB6 := Aside0.mk hb6; clear ho6 hb6 hg6 ha6); have hc6 := HCell.out _ HB6.out)
              | fail)
            refine (reftext_calls (s.extract j s.size) _ (by rw [ByteArray.size_extract]; omega)).mono ?_
            rintro e w7 ⟨v7, rfl, ho, hb⟩
            obtain ⟨A7, c7, rfl, hc7, hC7⟩ := Kd.R_reads ho
            have HB7 := Aside0.mk (below_then HB6.out HB6.out.size hb)
            have HO7 := Aside0.mk (Kd.R_below HO6.out hb)
            have hyl : (varint (s.extract j s.size).size ++ bytesOf (s.extract j s.size)).length ≤ 74 := by
              have h1 := varint_le10 (show (s.extract j s.size).size < 18446744073709551616 by rw [ByteArray.size_extract]; omega)
              have h2 : (bytesOf (s.extract j s.size)).length = (s.extract j s.size).size := by unfold bytesOf; rw [List.length_map]; rfl
              rw [List.length_append, h2]
              rw [ByteArray.size_extract] at h1 ⊢
              omega
            have HE2 := Aside0.mk (show xs ++ varint j ++ (varint (s.extract j s.size).size ++ bytesOf (s.extract j s.size)) = varint m ++ encAll [] (List.take (k + 1) l) by
              rw [HE.out, ← HX.out]
              unfold bytesOf
              rw [HSub.out, ByteArray.size_extract]
              unfold numsT
              simp only [List.append_assoc]
              congr 4
              congr 2
              have := HSz.out; omega)
            clear HE HX HSub
            generalize varint (s.extract j s.size).size ++ bytesOf (s.extract j s.size) = ys at *
            have HC7 := Aside0.mk hC7
            clear ho hb hc7 hC7 HO6 HB6
            go_wp2_with (first
              | ((with_reducible refine gate_builtin (b := .append) (xs := #[.tmp 60, .tmp 67]) rfl ?_); at_builtin; refine Kd.R_append_rows (Kd.int .u8) (w0 := w) w.heap.size rfl (.tmp 60) (.tmp 67) 43 5 (.int .u8 0) 1 rfl Try.underlying43 info5 rfl (by decide) (by omega) (v6) (xs ++ varint j) (ys) (A7) (ys).length (c7) (fun _ => True) (fun _ => False) rfl rfl HO7.out HC7.out (fun _ _ h => h) (fun _ h => h.elim) (fun _ _ => trivial) HB7.out HB7.out.size (by rw [List.length_append]; omega) ?_; intro v8 w8 ho8 hb8 hg8 ha8; have HO8 := Aside0.mk ho8; have HB8 := Aside0.mk hb8; clear ho8 hb8 hg8 ha8)
              | fail)
            go_roundw
            case rel => exact ⟨k + 1, by omega, by go_num, ⟨by rw [← HE2.out]; exact HO8.out⟩, HB8⟩
            case measure => simp [intOf]; omega
    · obtain rfl : k = m := by omega
      have HF := Aside0.mk (show varint k ++ encAll [] (l.take k) = dictBytes l by unfold dictBytes; rw [← HM.out, List.take_length])
      rw [HF.out] at HO
      go_wp2_with fail
      go_ret
      exact ⟨_, rfl, HO.out, HB.out⟩
end Go.Proofs.Ytomgfhapmhagnaa.Txt
end
