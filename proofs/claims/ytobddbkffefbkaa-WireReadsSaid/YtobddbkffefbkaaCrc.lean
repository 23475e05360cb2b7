/- The sum of bytes: table by table, and bit by bit: plain Lean, no program in sight. -/
import Derived.Test.YtobddbkffefbkaaLib
namespace Go.Proofs.Ytobddbkffefbkaa.Crc
set_option linter.unusedVariables false
set_option linter.unusedSimpArgs false
open Go.RowKit Go.Proofs.YtobddbkffefbkaaW.PrintWords Go.Proofs.Ytobddbkffefbkaa.Lib

def T : List Int := [0, 498536548, 997073096, 651767980, 1994146192, 1802195444, 1303535960, 1342533948, 3988292384, 4027552580, 3604390888, 3412177804, 2607071920, 2262029012, 2685067896, 3183342108]
def tab (j : Nat) : Nat := (T.getD j 0).toNat
theorem tab_lt (j : Nat) : tab j < 4294967296 := by
  unfold tab
  by_cases hj : j < 16
  · have : j = 0 ∨ j = 1 ∨ j = 2 ∨ j = 3 ∨ j = 4 ∨ j = 5 ∨ j = 6 ∨ j = 7 ∨ j = 8 ∨ j = 9 ∨ j = 10 ∨ j = 11 ∨ j = 12 ∨ j = 13 ∨ j = 14 ∨ j = 15 := by omega
    rcases this with h | h | h | h | h | h | h | h | h | h | h | h | h | h | h | h <;> subst h <;> decide
  · rw [List.getD_eq_getElem?_getD, List.getElem?_eq_none (by simp [T]; omega)]; decide
theorem tab_int (j : Nat) : ((tab j : Nat) : Int) = T.getD j 0 := by
  unfold tab
  by_cases hj : j < 16
  · have : j = 0 ∨ j = 1 ∨ j = 2 ∨ j = 3 ∨ j = 4 ∨ j = 5 ∨ j = 6 ∨ j = 7 ∨ j = 8 ∨ j = 9 ∨ j = 10 ∨ j = 11 ∨ j = 12 ∨ j = 13 ∨ j = 14 ∨ j = 15 := by omega
    rcases this with h | h | h | h | h | h | h | h | h | h | h | h | h | h | h | h <;> subst h <;> decide
  · rw [List.getD_eq_getElem?_getD, List.getElem?_eq_none (by simp [T]; omega)]; decide
/-- Four bits on. -/
def nib (x : Nat) : Nat := x / 16 ^^^ tab (x % 16)
theorem nib_lt {x : Nat} (h : x < 4294967296) : nib x < 4294967296 := xor_lt32 (by omega) (tab_lt _)
/-- A byte on. -/
def byt (x c : Nat) : Nat := nib (nib (x ^^^ c))
theorem byt_lt {x c : Nat} (h : x < 4294967296) (hc : c < 256) : byt x c < 4294967296 := nib_lt (nib_lt (xor_lt32 h (by omega)))
def run (x : Nat) (l : List Int) : Nat := l.foldl (fun x c => byt x c.toNat) x
theorem run_lt (l : List Int) : ∀ x, x < 4294967296 → Bytes l → run x l < 4294967296 := by
  induction l with
  | nil => intro x hx _; exact hx
  | cons c l ih =>
    intro x hx hb
    have h0 := hb c List.mem_cons_self
    exact ih _ (byt_lt hx (by omega)) (fun y hy => hb y (List.mem_cons_of_mem _ hy))
theorem run_snoc (x : Nat) (l : List Int) (c : Int) : run x (l ++ [c]) = byt (run x l) c.toNat := by simp [run]
def sum (l : List Int) : Nat := 4294967295 ^^^ run 4294967295 l
theorem sum_lt (l : List Int) (h : Bytes l) : sum l < 4294967296 := xor_lt32 (by decide) (run_lt _ _ (by decide) h)
theorem max_xor (y : Nat) (hy : y < 4294967296) : bits .xor .u32 IntKind.u32.max (y : Int) = ((4294967295 ^^^ y : Nat) : Int) := by
  have e : IntKind.u32.max = ((4294967295 : Nat) : Int) := by decide
  rw [e]
  exact xor_u32 _ _ (by decide) hy

/-- A round's numbers, in the walk's spelling. -/
theorem round (y : Nat) (c : Int) (hy : y < 4294967296) (hc : 0 ≤ c ∧ c < 256) : ∃ (y1 y2 : Nat),
    bits .xor .u32 (y : Int) c = (y1 : Int) ∧ y1 < 4294967296 ∧
    bits .and .u32 (y1 : Int) 15 = ((y1 % 16 : Nat) : Int) ∧
    bits .xor .u32 ((y1 : Int) / 16) (T.getD (y1 % 16) 0) = (y2 : Int) ∧ y2 < 4294967296 ∧
    bits .and .u32 (y2 : Int) 15 = ((y2 % 16 : Nat) : Int) ∧
    bits .xor .u32 ((y2 : Int) / 16) (T.getD (y2 % 16) 0) = ((byt y c.toNat : Nat) : Int) := by
  obtain ⟨m, rfl⟩ := Int.eq_ofNat_of_zero_le hc.1
  have hm : m < 256 := by omega
  refine ⟨y ^^^ m, nib (y ^^^ m), xor_u32 _ _ hy (by omega), xor_lt32 hy (by omega), and15_u32 _ (xor_lt32 hy (by omega)), ?_, nib_lt (xor_lt32 hy (by omega)), and15_u32 _ (nib_lt (xor_lt32 hy (by omega))), ?_⟩
  · have h := xor_lt32 hy (show m < 4294967296 by omega)
    have e : ((y ^^^ m : Nat) : Int) / 16 = (((y ^^^ m) / 16 : Nat) : Int) := by omega
    rw [← tab_int, e, xor_u32 _ _ (by omega) (tab_lt _)]; rfl
  · have h := nib_lt (xor_lt32 hy (show m < 4294967296 by omega))
    have e : ((nib (y ^^^ m) : Nat) : Int) / 16 = ((nib (y ^^^ m) / 16 : Nat) : Int) := by omega
    rw [← tab_int, e, xor_u32 _ _ (by omega) (tab_lt _)]; rfl

/-! ### bit by bit -/
def shf (y : Nat) : Nat := if y % 2 = 1 then y / 2 ^^^ 3988292384 else y / 2
def bitstep (x b : Nat) : Nat := if x % 2 ≠ b then x / 2 ^^^ 3988292384 else x / 2
/-- The first j bits of a byte. -/
def bitrun (x c : Nat) : Nat → Nat
  | 0 => x
  | j + 1 => bitstep (bitrun x c j) (c / 2 ^ j % 2)
theorem shf_lt {x : Nat} (h : x < 4294967296) : shf x < 4294967296 := by
  unfold shf; split
  · exact xor_lt32 (by omega) (by decide)
  · omega
theorem bitstep_lt {x : Nat} (b : Nat) (h : x < 4294967296) : bitstep x b < 4294967296 := by
  unfold bitstep; split
  · exact xor_lt32 (by omega) (by decide)
  · omega
theorem bitrun_lt {x : Nat} (c : Nat) (h : x < 4294967296) : ∀ j, bitrun x c j < 4294967296
  | 0 => h
  | j + 1 => bitstep_lt _ (bitrun_lt c h j)
theorem xor_mod2 (a b : Nat) : (a ^^^ b) % 2 = (a + b) % 2 := by
  have h := Nat.xor_mod_two_pow (a := a) (b := b) (n := 1)
  rw [Nat.pow_one] at h
  rw [h]
  have ha : a % 2 = 0 ∨ a % 2 = 1 := by omega
  have hb : b % 2 = 0 ∨ b % 2 = 1 := by omega
  rcases ha with ha | ha <;> rcases hb with hb | hb <;> rw [ha, hb] <;> simp <;> omega
theorem xor_div2 (a b : Nat) : (a ^^^ b) / 2 = a / 2 ^^^ b / 2 := by
  have h := Nat.shiftRight_xor_distrib (i := 1) (a := a) (b := b)
  simpa [Nat.shiftRight_eq_div_pow] using h
theorem bitstep_eq (x b : Nat) (hb : b < 2) : bitstep x b = shf (x ^^^ b) := by
  unfold bitstep shf
  rw [xor_mod2, xor_div2, show b / 2 = 0 by omega, Nat.xor_zero]
  by_cases h : x % 2 = b
  · rw [if_neg (by omega), if_neg (by omega)]
  · rw [if_pos h, if_pos (by omega)]
theorem shf_even (a m : Nat) : shf (a ^^^ 2 * m) = shf a ^^^ m := by
  unfold shf
  rw [xor_mod2, xor_div2, show 2 * m / 2 = m by omega, show (a + 2 * m) % 2 = a % 2 by omega]
  split
  · rw [Nat.xor_assoc, Nat.xor_assoc, Nat.xor_comm m]
  · rfl
def shfs : Nat → Nat → Nat
  | 0, x => x
  | j + 1, x => shf (shfs j x)
theorem low_even (m : Nat) : m ^^^ m % 2 = 2 * (m / 2) := by
  apply Nat.eq_of_testBit_eq
  intro i
  rw [Nat.testBit_xor]
  rcases i with _ | i
  · simp [Nat.testBit_zero]
  · rw [Nat.testBit_succ, Nat.testBit_succ, Nat.testBit_succ]
    rw [show m % 2 / 2 = 0 by omega, show 2 * (m / 2) / 2 = m / 2 by omega]
    simp
theorem bitrun_shfs (x c : Nat) : ∀ j, bitrun x c j = shfs j (x ^^^ c) ^^^ c / 2 ^ j
  | 0 => by simp [bitrun, shfs, Nat.xor_assoc]
  | j + 1 => by
    have hd : c / 2 ^ (j + 1) = c / 2 ^ j / 2 := by rw [Nat.pow_succ, Nat.div_div_eq_div_mul]
    rw [bitrun, bitstep_eq _ _ (Nat.mod_lt _ (by decide)), bitrun_shfs x c j, Nat.xor_assoc, low_even, shf_even, shfs, hd]
theorem shfs_high (h r : Nat) : ∀ j, shfs j (r ^^^ 2 ^ j * h) = shfs j r ^^^ h := by
  intro j
  induction j generalizing h with
  | zero => simp [shfs]
  | succ j ih =>
    have e : 2 ^ (j + 1) * h = 2 ^ j * (2 * h) := by rw [Nat.pow_succ, Nat.mul_assoc]
    rw [shfs, e, ih, shf_even, shfs]
theorem split16 (y : Nat) : y = y % 16 ^^^ 2 ^ 4 * (y / 16) := by
  have h := Nat.two_pow_add_eq_or_of_lt (b := y % 16) (i := 4) (Nat.mod_lt _ (by decide)) (y / 16)
  have h2 : 2 ^ 4 * (y / 16) ^^^ y % 16 = 2 ^ 4 * (y / 16) ||| y % 16 := by
    apply Nat.eq_of_testBit_eq
    intro i
    rw [Nat.testBit_xor, Nat.testBit_or, Nat.testBit_two_pow_mul]
    by_cases hi : 4 ≤ i
    · have : (y % 16).testBit i = false := Nat.testBit_lt_two_pow (Nat.lt_of_lt_of_le (Nat.mod_lt y (show 16 > 0 by decide)) (by
        have : 2 ^ 4 ≤ 2 ^ i := Nat.pow_le_pow_right (by decide) hi
        simpa using this))
      simp [this]
    · simp [hi]
  rw [Nat.xor_comm, h2, ← h]
  have := Nat.div_add_mod y 16
  omega
theorem nib_shfs (y : Nat) : nib y = shfs 4 y := by
  have key : ∀ r, r < 16 → shfs 4 r = tab r := by decide +kernel
  have h : shfs 4 y = shfs 4 (y % 16 ^^^ 2 ^ 4 * (y / 16)) := congrArg _ (split16 y)
  rw [h, shfs_high, key _ (Nat.mod_lt _ (by decide)), Nat.xor_comm]; rfl
theorem shfs_add (x : Nat) (a : Nat) : ∀ b, shfs (a + b) x = shfs b (shfs a x)
  | 0 => rfl
  | b + 1 => by rw [Nat.add_succ, shfs, shfs_add x a b]; rfl
/-- A byte's eight bits are the byte. -/
theorem bitrun_byt (x c : Nat) (hc : c < 256) : bitrun x c 8 = byt x c := by
  rw [bitrun_shfs, show c / 2 ^ 8 = 0 by omega, Nat.xor_zero]
  unfold byt
  rw [nib_shfs, nib_shfs, ← shfs_add]
theorem and1_u32 (a : Nat) (ha : a < 4294967296) : bits .and .u32 a 1 = ((a % 2 : Nat) : Int) := by
  have h := bits_mask .u32 32 (by decide) wraps_u32 1 (by decide) a (by omega) (by omega)
  have e : (2 : Int) ^ 1 - 1 = 1 := by decide
  rw [e] at h
  rw [h]; omega
/-- A bit's numbers, in the walk's spelling. -/
theorem bitround (z m q : Nat) (hz : z < 4294967296) (hm : m < 256) :
    bits .and .u32 (z : Int) 1 = ((z % 2 : Nat) : Int) ∧ bits .and .u32 ((m : Int) / 2 ^ q % 4294967296) 1 = ((m / 2 ^ q % 2 : Nat) : Int) ∧
    bits .xor .u32 ((z : Int) / 2) 3988292384 = ((z / 2 ^^^ 3988292384 : Nat) : Int) := by
  refine ⟨and1_u32 z hz, ?_, ?_⟩
  · have hq : m / 2 ^ q ≤ m := Nat.div_le_self _ _
    have e : (m : Int) / 2 ^ q % 4294967296 = ((m / 2 ^ q : Nat) : Int) := by
      have e1 : (m : Int) / 2 ^ q = ((m / 2 ^ q : Nat) : Int) := by simp
      rw [e1]
      clear e1
      generalize m / 2 ^ q = t at *
      omega
    rw [e]
    exact and1_u32 _ (by omega)
  · have e : (z : Int) / 2 = ((z / 2 : Nat) : Int) := by omega
    rw [e]
    exact xor_u32 (z / 2) 3988292384 (by omega) (by decide)
theorem max_xor' (y : Nat) (hy : y < 4294967296) : bits .xor .u32 (y : Int) 4294967295 = ((4294967295 ^^^ y : Nat) : Int) := by
  rw [Nat.xor_comm]
  exact xor_u32 y 4294967295 hy (by decide)
end Go.Proofs.Ytobddbkffefbkaa.Crc
