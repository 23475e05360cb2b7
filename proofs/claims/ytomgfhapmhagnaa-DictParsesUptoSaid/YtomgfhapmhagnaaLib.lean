/- Plain words and small facts on numbers, bytes and lists: no program in sight. -/
import Derived.Test.YtomgfhapmhagnaaWMore
import Derived.Test.YtomgfhapmhagnaaWRepsOne
import Derived.Test.YtomgfhapmhagnaaWTab
import Derived.Test.YtomgfhapmhagnaaWFootNe
import Derived.Test.YtomgfhapmhagnaaWSized
import Derived.Laws.CopyOwn
import Derived.Lib.SlBytesConst
import Derived.Laws.BitsLemmas
namespace Go.Proofs.Ytomgfhapmhagnaa.Lib
set_option linter.unusedVariables false
set_option linter.unusedSimpArgs false
open Go.RowKit Go.Proofs.YtomgfhapmhagnaaW.PrintWords

/-- Each number is a byte. -/
def Bytes (xs : List Int) : Prop := ∀ x ∈ xs, 0 ≤ x ∧ x < 256
theorem bytes_of {xs : List Int} (h : (xs.all fun x => decide (0 ≤ x) && decide (x < 256)) = true) : Bytes xs := fun x hx => by simpa using List.all_eq_true.1 h x hx
theorem Bytes.nil : Bytes [] := fun _ h => by cases h
theorem Bytes.append {xs ys : List Int} (h : Bytes xs) (h2 : Bytes ys) : Bytes (xs ++ ys) := fun x hx => by
  rcases List.mem_append.1 hx with hx | hx
  · exact h x hx
  · exact h2 x hx
theorem Bytes.cons {x : Int} {xs : List Int} (h0 : 0 ≤ x ∧ x < 256) (h : Bytes xs) : Bytes (x :: xs) := fun y hy => by
  rcases List.mem_cons.1 hy with rfl | hy
  · exact h0
  · exact h y hy
theorem Bytes.left {xs ys : List Int} (h : Bytes (xs ++ ys)) : Bytes xs := fun x hx => h x (List.mem_append_left _ hx)
theorem Bytes.right {xs ys : List Int} (h : Bytes (xs ++ ys)) : Bytes ys := fun x hx => h x (List.mem_append_right _ hx)
theorem Bytes.take {xs : List Int} (h : Bytes xs) (n : Nat) : Bytes (xs.take n) := fun x hx => h x (List.mem_of_mem_take hx)
theorem Bytes.drop {xs : List Int} (h : Bytes xs) (n : Nat) : Bytes (xs.drop n) := fun x hx => h x (List.mem_of_mem_drop hx)
theorem rd_nat (xs : List Int) (k : Nat) : rd xs (k : Int) = xs.getD k 0 := rfl
theorem Bytes.getD {xs : List Int} (h : Bytes xs) (k : Nat) : 0 ≤ xs.getD k 0 ∧ xs.getD k 0 < 256 := by
  rw [List.getD_eq_getElem?_getD]
  by_cases hk : k < xs.length
  · rw [List.getElem?_eq_getElem hk]; exact h _ (List.getElem_mem hk)
  · rw [List.getElem?_eq_none (by omega)]; exact ⟨by decide, by decide⟩
theorem Bytes.rd {xs : List Int} (h : Bytes xs) (i : Int) : 0 ≤ rd xs i ∧ rd xs i < 256 := h.getD i.toNat
theorem take_snoc (xs : List Int) (k : Nat) (h : k < xs.length) : xs.take (k + 1) = xs.take k ++ [xs.getD k 0] := by
  rw [List.take_succ_eq_append_getElem h, List.getD_eq_getElem?_getD, List.getElem?_eq_getElem h]; rfl
theorem bytesOf_bytes (s : ByteArray) : Bytes (bytesOf s) := by
  intro x hx
  unfold bytesOf at hx
  obtain ⟨b, _, rfl⟩ := List.mem_map.1 hx
  have := b.toNat_lt
  omega

/-! ### bits of numbers that are not below 0 -/
theorem wraps_u32 (n : Int) (h₀ : 0 ≤ n) (h₁ : n < 2 ^ 32) : IntKind.u32.wrap n = n := by rw [IntKind.wrap_u32]; omega
theorem wraps_u64 (n : Int) (h₀ : 0 ≤ n) (h₁ : n < 2 ^ 64) : IntKind.u64.wrap n = n := by
  simp only [IntKind.wrap, IntKind.bits, IntKind.signed]
  simp
  omega
theorem wraps_i64 (n : Int) (h₀ : 0 ≤ n) (h₁ : n < 2 ^ 63) : IntKind.i64.wrap n = n := by rw [IntKind.wrap_i64]; omega
theorem bits_xor_nat (k : IntKind) (j : Nat) (hj : j ≤ k.bits) (hk : ∀ n : Int, 0 ≤ n → n < 2 ^ j → k.wrap n = n) (a b : Nat) (ha : a < 2 ^ j) (hb : b < 2 ^ j) :
    bits .xor k a b = ((a ^^^ b : Nat) : Int) := by
  have hp : 2 ^ j ≤ 2 ^ k.bits := Nat.pow_le_pow_right (by decide) hj
  have ha' : a % 2 ^ k.bits = a := Nat.mod_eq_of_lt (Nat.lt_of_lt_of_le ha hp)
  have hb' : b % 2 ^ k.bits = b := Nat.mod_eq_of_lt (Nat.lt_of_lt_of_le hb hp)
  have cast : ∀ n : Nat, n < 2 ^ j → ((n : Nat) : Int) < 2 ^ j := fun n h => by exact_mod_cast h
  simp only [bits, BitVec.ofInt_natCast, BitVec.toNat_xor, BitVec.toNat_ofNat, ha', hb']
  exact hk _ (Int.natCast_nonneg _) (cast _ (Nat.xor_lt_two_pow ha hb))
theorem xor_u32 (a b : Nat) (ha : a < 4294967296) (hb : b < 4294967296) : bits .xor .u32 a b = ((a ^^^ b : Nat) : Int) :=
  bits_xor_nat .u32 32 (by decide) wraps_u32 a b ha hb
theorem and15_u32 (a : Nat) (ha : a < 4294967296) : bits .and .u32 a 15 = ((a % 16 : Nat) : Int) := by
  have h := bits_mask .u32 32 (by decide) wraps_u32 4 (by decide) a (by omega) (by omega)
  have e : (2 : Int) ^ 4 - 1 = 15 := by decide
  rw [e] at h
  rw [h]; omega
theorem xor_u8 (a b : Nat) (ha : a < 256) (hb : b < 256) : bits .xor .u8 a b = ((a ^^^ b : Nat) : Int) :=
  bits_xor_nat .u8 8 (by decide) wraps_u8 a b ha hb
theorem xor_lt32 {a b : Nat} (ha : a < 4294967296) (hb : b < 4294967296) : a ^^^ b < 4294967296 := Nat.xor_lt_two_pow (n := 32) ha hb

/-! ### numbers as bytes: seven bits each, the last one below 128 -/
def varint (n : Nat) : List Int := if n < 128 then [(n : Int)] else ((n % 128 + 128 : Nat) : Int) :: varint (n / 128)
termination_by n
decreasing_by omega
theorem varint_small {n : Nat} (h : n < 128) : varint n = [(n : Int)] := by rw [varint, if_pos h]
theorem varint_big {n : Nat} (h : 128 ≤ n) : varint n = ((n % 128 + 128 : Nat) : Int) :: varint (n / 128) := by rw [varint, if_neg (by omega)]
theorem varint_bytes (n : Nat) : Bytes (varint n) := by
  induction n using Nat.strongRecOn with
  | _ n ih =>
    by_cases h : n < 128
    · rw [varint_small h]; exact Bytes.cons (by omega) Bytes.nil
    · rw [varint_big (by omega)]; exact Bytes.cons (by omega) (ih _ (by omega))
theorem varint_ne (n : Nat) : varint n ≠ [] := by
  by_cases h : n < 128
  · rw [varint_small h]; simp
  · rw [varint_big (by omega)]; simp
theorem varint_le (k : Nat) : ∀ n, n < 128 ^ (k + 1) → (varint n).length ≤ k + 1 := by
  induction k with
  | zero => intro n h; rw [varint_small (by simpa using h)]; simp
  | succ k ih =>
    intro n h
    by_cases h1 : n < 128
    · rw [varint_small h1]; simp
    · rw [varint_big (by omega)]
      have h2 : n / 128 < 128 ^ (k + 1) := by
        rw [Nat.div_lt_iff_lt_mul (by decide)]
        rw [Nat.pow_succ] at h; exact h
      have := ih _ h2
      rw [List.length_cons]; omega
theorem varint_le10 {n : Nat} (h : n < 18446744073709551616) : (varint n).length ≤ 10 := varint_le 9 n (by
  have : (18446744073709551616 : Nat) < 128 ^ 10 := by decide
  omega)
theorem or128 (n : Nat) : bits .or .u8 ((n : Int) % 256) 128 = ((n % 128 + 128 : Nat) : Int) := by
  have e : (n : Int) % 256 = ((n % 256 : Nat) : Int) := by omega
  rw [e]
  have h := (bits_nat .u8 8 (by decide) wraps_u8 (n % 256) 128 (Nat.mod_lt _ (by decide)) (by decide)).2
  have e2 : ((128 : Nat) : Int) = 128 := rfl
  rw [e2] at h
  rw [h]
  have key : ∀ m, m < 256 → m ||| 128 = m % 128 + 128 := by decide +kernel
  rw [key _ (Nat.mod_lt _ (by decide))]
  omega

/-- 0, -1, 1, -2, .. as 0, 1, 2, 3, .. -/
def zigzag (n : Int) : Nat := if 0 ≤ n then (2 * n).toNat else (-2 * n - 1).toNat
theorem zigzag_lt (n : Int) (h0 : -9223372036854775808 ≤ n) (hn : n < 9223372036854775808) : zigzag n < 18446744073709551616 := by
  unfold zigzag; split <;> omega

theorem xor_ones (k a : Nat) (h : a < 2 ^ k) : a ^^^ (2 ^ k - 1) = 2 ^ k - 1 - a := by
  have e := congrArg BitVec.toNat (BitVec.xor_allOnes (x := BitVec.ofNat k a))
  rw [BitVec.toNat_xor, BitVec.toNat_not, BitVec.toNat_allOnes, BitVec.toNat_ofNat, Nat.mod_eq_of_lt h] at e
  exact e
theorem wrap_u64 (n : Int) : IntKind.u64.wrap n = n % 18446744073709551616 := by
  simp [IntKind.wrap, IntKind.bits, IntKind.signed]
theorem xor_u64 (a b : Nat) (ha : a < 18446744073709551616) (hb : b < 18446744073709551616) : bits .xor .u64 a b = ((a ^^^ b : Nat) : Int) :=
  bits_xor_nat .u64 64 (by decide) wraps_u64 a b ha hb
theorem zigzag_bits (n : Int) (h0 : -9223372036854775808 ≤ n) (hn : n < 9223372036854775808) :
    bits .xor .u64 (IntKind.u64.wrap (wrap64 (n * 2))) (IntKind.u64.wrap (n / 9223372036854775808)) = (zigzag n : Nat) := by
  rw [wrap_u64, wrap_u64]
  unfold zigzag wrap64
  by_cases h : 0 ≤ n
  · have e1 : ((n * 2 + 9223372036854775808) % 18446744073709551616 - 9223372036854775808) % 18446744073709551616 = (((2 * n).toNat : Nat) : Int) := by omega
    have e2 : (n / 9223372036854775808) % 18446744073709551616 = ((0 : Nat) : Int) := by omega
    rw [e1, e2, xor_u64 _ _ (by omega) (by decide), if_pos h, Nat.xor_zero]
  · have e1 : ((n * 2 + 9223372036854775808) % 18446744073709551616 - 9223372036854775808) % 18446744073709551616 = (((18446744073709551616 + 2 * n).toNat : Nat) : Int) := by omega
    have e2 : (n / 9223372036854775808) % 18446744073709551616 = ((2 ^ 64 - 1 : Nat) : Int) := by
      have : n / 9223372036854775808 = -1 := by omega
      rw [this]; decide
    have hlt : (18446744073709551616 + 2 * n).toNat < 2 ^ 64 := by omega
    rw [e1, e2, xor_u64 _ _ (by omega) (by decide), if_neg h, xor_ones 64 _ hlt]
    omega

/-- Four bytes, the least one first. -/
def le4 (n : Nat) : List Int := [((n % 256 : Nat) : Int), ((n / 256 % 256 : Nat) : Int), ((n / 65536 % 256 : Nat) : Int), ((n / 16777216 % 256 : Nat) : Int)]
theorem le4_bytes (n : Nat) : Bytes (le4 n) := by
  unfold le4
  exact Bytes.cons (by omega) (Bytes.cons (by omega) (Bytes.cons (by omega) (Bytes.cons (by omega) Bytes.nil)))
theorem le4_length (n : Nat) : (le4 n).length = 4 := rfl
theorem le4_inj {a b : Nat} (ha : a < 4294967296) (hb : b < 4294967296) (h : le4 a = le4 b) : a = b := by
  unfold le4 at h
  simp only [List.cons.injEq, and_true] at h
  omega

theorem and127 (m : Nat) (hm : m < 256) : bits .and .u8 (m : Int) 127 = ((m % 128 : Nat) : Int) := by
  have h := bits_mask .u8 8 (by decide) wraps_u8 7 (by decide) (m : Int) (by omega) (by omega)
  have e : (2 : Int) ^ 7 - 1 = 127 := by decide
  rw [e] at h
  rw [h]; omega
theorem cells_of_C {k : IntKind} {w : World} {A : Option Addr} {xs : List Int} {b : Addr} (h : (Kd.int k).C w A xs.length xs) (hb : A = some b) : ∀ j u, (nums k xs)[j]? = some u → w.cell? (b.add j) = some u := by
  intro j u hu
  have hj : j < xs.length := by
    have := (List.getElem?_eq_some_iff.1 hu).1
    simpa [nums] using this
  obtain ⟨ad, e, hc⟩ := Kd.at_int h j (by omega) (by omega)
  rw [hb] at e
  cases e
  rw [Int.toNat_natCast, rd_nat] at hc
  rw [hc]
  simp only [nums, List.getElem?_map, List.getElem?_eq_getElem hj, Option.map_some, Option.some.injEq] at hu
  rw [← hu, List.getD_eq_getElem?_getD, List.getElem?_eq_getElem hj]; rfl
theorem C_plain {k : IntKind} {w : World} {A : Option Addr} {xs : List Int} (h : (Kd.int k).C w A xs.length xs) (hn : 0 < xs.length) : ∃ b o, A = some ⟨b, o, none⟩ := by
  obtain ⟨ad, e, hc⟩ := Kd.at_int h 0 (by omega) (by omega)
  subst e
  obtain ⟨b, o, s⟩ := ad
  have hs : s = none := by simpa [Addr.add] using World.cell?_spot hc
  subst hs
  exact ⟨b, o, rfl⟩
theorem C_plain' {k : IntKind} {w : World} {A : Option Addr} {n : Nat} {xs : List Int} (h : (Kd.int k).C w A n xs) (hn : 0 < n) : ∃ b o, A = some ⟨b, o, none⟩ := by
  obtain rfl := h.1
  exact C_plain h hn
theorem C_mid_at {k : IntKind} {w : World} {b o c lo hi : Nat} {xs : List Int} (h : (Kd.int k).C w (some ⟨b, o, none⟩) xs.length xs) (h1 : lo ≤ hi) (h2 : hi ≤ xs.length) (hc : xs.length ≤ c) (hne : ¬ c = lo) :
    (Kd.int k).C w (some ⟨b, o + lo, none⟩) ((xs.take hi).drop lo).length ((xs.take hi).drop lo) := by
  have h3 := Kd.C_mid h h1 h2 hc
  rw [if_neg hne] at h3
  simp only [Option.map_some, add_at] at h3
  have e : (Kd.int k).sz = 1 := rfl
  rw [e, Nat.mul_one] at h3
  exact h3
theorem C_drop_at {k : IntKind} {w : World} {b o c lo : Nat} {xs : List Int} (h : (Kd.int k).C w (some ⟨b, o, none⟩) xs.length xs) (h1 : lo ≤ xs.length) (hc : xs.length ≤ c) (hne : ¬ c = lo) :
    (Kd.int k).C w (some ⟨b, o + lo, none⟩) (xs.drop lo).length (xs.drop lo) := by
  have h3 := C_mid_at h h1 (Nat.le_refl _) hc hne
  rw [List.take_length] at h3
  exact h3
/-- A row that was just laid, marked or not. -/
theorem C_const {k : IntKind} {e : Nat} (w : World) (xs : List Int) (fr : Nat × Nat) (hm : xs.length ≤ 9223372036854775807) :
    (Kd.int k).C (w.alloc (.cells (nums k xs).toArray e fr)) (some ⟨w.heap.size, 0, none⟩) xs.length xs := by
  refine ⟨rfl, hm, fun _ => ⟨_, rfl, fun j p hj => ⟨[.int k p], rfl, rfl, fun i u hu => ?_⟩⟩⟩
  have e1 : (Kd.int k).sz = 1 := rfl
  have hi : i = 0 := by
    rcases i with _ | i
    · rfl
    · simp at hu
  subst hi
  simp only [List.getElem?_cons_zero, Option.some.injEq] at hu
  subst hu
  rw [e1, Nat.mul_one, Nat.add_zero, add_plain, cell_of_row _ w.heap.size j _ e fr (heap_alloc_new w _)]
  simp [nums, hj]
/-- A row of one's own that isn't empty begins at its block's head. -/
theorem R_plain {α : Type} {d : Kd α} {e : Nat} {w : World} {base : Nat} {ok : Nat → Prop} {A : Option Addr} {n c : Nat} {xs : List α} (h : d.R e w base ok (.slice A n c) xs) (hn : 0 < n) : ∃ g, A = some ⟨g, 0, none⟩ ∧ base ≤ g ∧ n = xs.length := by
  obtain ⟨_, inner, ho, _⟩ := h
  rcases ho.2 with ⟨e1, _⟩ | ⟨g, cap, cur, e1, hg, _⟩
  · injection e1 with _ e1 _; omega
  · injection e1 with e1 e2 _
    exact ⟨g, e1, hg, e2⟩
theorem R_len {α : Type} {d : Kd α} {e : Nat} {w : World} {base : Nat} {ok : Nat → Prop} {A : Option Addr} {n c : Nat} {xs : List α} (h : d.R e w base ok (.slice A n c) xs) : n = xs.length ∧ n ≤ c := by
  obtain ⟨A', c', e1, h1, _⟩ := Kd.R_reads h
  injection e1 with _ e2 e3
  omega
theorem string_of_R {P : Program} {e : Nat} {w : World} {base : Nat} {ok : Nat → Prop} {v : Value} {xs : List Int} {src dst : TypeId} (hs : P.underlying src = some (.slice e)) (he : P.underlying e = some (.int .u8)) (hd : P.underlying dst = some .string)
    (h : (Kd.int .u8).R e w base ok v xs) : (convert src dst v).run P w = .ok (.string (strOfNums xs)) w := by
  obtain ⟨A, c, rfl, _, hC⟩ := Kd.R_reads h
  exact Kd.C_string hs he hd hC
theorem str_append (xs ys : List Int) : strOfNums (xs ++ ys) = strOfNums xs ++ strOfNums ys := by
  apply ByteArray.ext
  simp [strOfNums]
theorem R_C {α : Type} {d : Kd α} {e : Nat} {w : World} {base : Nat} {ok : Nat → Prop} {A : Option Addr} {n c : Nat} {xs : List α} (h : d.R e w base ok (.slice A n c) xs) : d.C w A n xs := by
  have h1 := Kd.R_reads' h
  rw [h1.1]
  exact h1.2.2
theorem R_at {k : IntKind} {e : Nat} {w : World} {base : Nat} {ok : Nat → Prop} {g n c : Nat} {xs : List Int} (h : (Kd.int k).R e w base ok (.slice (some ⟨g, 0, none⟩) n c) xs) (j : Nat) (hj : j < n) :
    w.cell? ⟨g, j, none⟩ = some (.int k (xs.getD j 0)) ∧ w.frozen? ⟨g, j, none⟩ = false := by
  obtain rfl := (R_len h).1
  have := Kd.R_cell (enc := Value.int k) (h1 := fun _ => rfl) (0 : Int) h (j : Int) (by omega) (by omega)
  rw [Int.toNat_natCast] at this
  exact this
theorem R_set_at {k : IntKind} {e : Nat} {w : World} {base : Nat} {ok : Nat → Prop} {g n c : Nat} {xs : List Int} (h : (Kd.int k).R e w base ok (.slice (some ⟨g, 0, none⟩) n c) xs) (j : Nat) (v : Int) :
    (Kd.int k).R e (w.setCell ⟨g, j, none⟩ (.int k v)) base ok (.slice (some ⟨g, 0, none⟩) n c) (xs.set j v) := by
  obtain rfl := (R_len h).1
  have := (Kd.R_put (enc := Value.int k) (h1 := fun _ => rfl) h (j : Int) v).1
  rw [Int.toNat_natCast] at this
  exact this
/-- 'xs[a : a + k]' of bytes that are read: an address, and what stands there. -/
theorem cut_part {P : Program} {t e : TypeId} {kd : IntKind} {bytes : Nat} {z : Value} (ht : P.underlying t = some (.slice e)) (hinfo : (P.info? e).map (fun i => (i.zero, i.size, i.bytes)) = some (some z, 1, bytes))
    {w : World} {A : Option Addr} {n c a k : Nat} {xs : List Int} (hC : (Kd.int kd).C w A n xs) (hk : a + k ≤ n) (hc : n ≤ c) :
    ∃ AA, (∀ W : World, (Instr.slice t (.slice A n c) (some (.int .i64 (a : Int))) (some (.int .i64 ((a : Int) + (k : Int)))) none).run P W = .ok (.slice AA k (c - a)) W) ∧
      (Kd.int kd).C w AA k ((xs.drop a).take k) := by
  obtain ⟨i0, hi, hz0, hz1, hz2⟩ := info_parts hinfo
  have hn : xs.length = n := hC.1
  refine ⟨if c = a then A else A.map (·.add a), fun W => ?_, ?_⟩
  · have h := cut_mid (P := P) t e .i64 .i64 ht hi 1 hz1 A n c (a : Int) ((a : Int) + (k : Int)) (by omega) (by omega) (by omega) hc W
    rw [show ((a : Int) + (k : Int)).toNat = a + k by omega, Int.toNat_natCast, Nat.mul_one, show a + k - a = k by omega] at h
    exact h
  · have hC' : (Kd.int kd).C w A xs.length xs := by rw [hn]; exact hC
    have h1 := Kd.C_mid (lo := a) (hi := a + k) hC' (by omega) (by omega) (show xs.length ≤ c by omega)
    have e1 : (xs.take (a + k)).drop a = (xs.drop a).take k := by rw [List.drop_take]; congr 1; omega
    have e2 : ((xs.drop a).take k).length = k := by rw [List.length_take, List.length_drop]; omega
    have e3 : (Kd.int kd).sz = 1 := rfl
    rw [e1, e2, e3] at h1
    simpa using h1
theorem C_none {k : IntKind} {w : World} {xs : List Int} (h : (Kd.int k).C w none xs.length xs) : xs = [] := by
  rcases xs with _ | ⟨x, l⟩
  · rfl
  · obtain ⟨ad, h, _⟩ := h.2.2 (by simp)
    cases h

section
variable {P : Program} {ops : Array Oper} {rest : List Oper} {o : Oper} {a : Act} {Q : Exit → Act → World → Prop}
/-- 'append(v, b)' where v has no room behind it: the answer is new. -/
theorem append_clip {k : IntKind} {w0 W : World} (base : Nat) (hgd : o.guard = none) (s x : Operand) (t e : TypeId) (bytes : Nat)
    (ho : o.op = .call { callee := .builtin .append, args := #[s, x], argTypes := #[t, t] })
    (ht : P.underlying t = some (.slice e)) (hinfo : (P.info? e).map (fun i => (i.zero, i.size, i.bytes)) = some (some (.int k 0), 1, bytes))
    (xs : List Int) (A : Option Addr) (b : Int) (hs : a.eval s = .slice A xs.length xs.length) (hx : a.eval x = .slice (some ⟨W.heap.size, 0, none⟩) 1 1)
    (hC : (Kd.int k).C W A xs.length xs) (HB : Below base w0 W) (hbase : base ≤ W.heap.size) (hb0 : 0 < bytes) (hl : (xs.length + 1) * bytes ≤ 140737488355328)
    (h : ∀ v1 w1, (Kd.int k).R e w1 base (fun _ => True) v1 (xs ++ [b]) → Below base w0 w1 → Below W.heap.size W w1 → wpList P ops Q rest (a.put o.dst v1) w1) :
    wpList P ops Q (o :: rest) a (W.alloc (.cells #[.int k b] e)) := by
  obtain ⟨i0, hi, hz0, hz1, hz2⟩ := info_parts hinfo
  have hB2 : Below W.heap.size W (W.alloc (.cells #[.int k b] e)) := below_alloc (Below.refl _ _) _
  have hC2 := Kd.C_below hC hB2
  have hlen : xs.length + 1 ≤ 140737488355328 := Nat.le_trans (Nat.le_mul_of_pos_right _ hb0) hl
  refine wpList_append_grows (W.alloc (.cells #[.int k b] e)) hgd s x t ho e i0 (.int k 0) 1 bytes ht hi hz0 hz1 hz2 rfl (by decide) A xs.length xs.length (nums k xs) hs ?_ (by simp [nums]) ?_ ⟨W.heap.size, 0, none⟩ 1 1 [.int k b] hx rfl ?_ ?_ (by omega) (by unfold maxLen; omega) hl ?_
  · rintro rfl; have := C_none hC; simp [this]
  · intro b' hb'; exact cells_of_C hC2 hb'
  · intro j u hu
    rcases j with _ | j
    · simp only [List.getElem?_cons_zero, Option.some.injEq] at hu
      subst hu
      rw [add_plain]
      simp [go_sem]
    · simp at hu
  · intro u hu
    simp only [List.mem_singleton] at hu
    subst hu
    rfl
  · intro v1 w1 hown hg
    have hW : W.heap.size ≤ (W.alloc (.cells #[.int k b] e)).heap.size := by simp
    refine h v1 w1 (Kd.R_of_own ?_ (fun _ _ => trivial)) ?_ ?_
    · have e1 : encs (Value.int k) (xs ++ [b]) = nums k xs ++ [.int k b] := by simp [encs, nums]
      rw [e1]
      have e2 : (xs ++ [b]).length = xs.length + 1 := by simp
      rw [e2]
      exact own_weaken hown (Nat.le_trans hbase hW)
    · exact pw_below_grown (HB.alloc hbase _) none (Nat.le_trans hbase hW) hg (fun _ h => by cases h)
    · exact pw_below_grown hB2 none hW hg (fun _ h => by cases h)
end

theorem tdiv4_bd (q : Int) (h0 : -9223372036854775808 ≤ q) (h1 : q ≤ 9223372036854775807) : -9223372036854775808 ≤ q.tdiv 4 ∧ q.tdiv 4 ≤ 9223372036854775807 := by
  have h : (q.tdiv 4).natAbs = q.natAbs / 4 := Int.natAbs_tdiv q 4
  omega
theorem beq_yes {a b : Int} (h : a = b) : (a == b) = true := beq_iff_eq.2 h
theorem beq_no {a b : Int} (h : ¬ a = b) : (a == b) = false := beq_eq_false_iff_ne.2 h
theorem bne_yes {a b : Int} (h : ¬ a = b) : (a != b) = true := bne_iff_ne.2 h
theorem bne_no {a b : Int} (h : a = b) : (a != b) = false := bne_eq_false_iff_eq.2 h
theorem ret_two {a a' b b' : Value} (h1 : a = a') (h2 : b = b') : Ending.returned (.tuple #[a, b]) = .returned (.tuple #[a', b']) := by rw [h1, h2]
theorem ret_int {k : IntKind} {a b : Int} (h : a = b) : Ending.returned (.int k a) = .returned (.int k b) := by rw [h]
end Go.Proofs.Ytomgfhapmhagnaa.Lib
