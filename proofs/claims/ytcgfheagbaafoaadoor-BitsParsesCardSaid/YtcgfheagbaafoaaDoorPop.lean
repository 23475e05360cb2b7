/- How many bits a word has: plain Lean. -/
import Derived.Test.YtcgfheagbaafoaaDoorLib
import Derived.Lib.BitFns
namespace Go.Proofs.YtcgfheagbaafoaaDoor.Pop
set_option linter.unusedVariables false
set_option linter.unusedSimpArgs false
open Go.RowKit

def rep (d : Nat) : Nat → Nat
  | 0 => 0
  | n + 1 => d + 256 * rep d n
def mapb (f : Nat → Nat) : Nat → Nat → Nat
  | 0, _ => 0
  | n + 1, x => f (x % 256) + 256 * mapb f n (x / 256)
theorem and_rep (d n x : Nat) (hd : d < 256) : x &&& rep d (n + 1) = (x % 256 &&& d) + 256 * (x / 256 &&& rep d n) := by
  have h1 : (x &&& rep d (n + 1)) % 2 ^ 8 = x % 2 ^ 8 &&& rep d (n + 1) % 2 ^ 8 := Nat.and_mod_two_pow
  have h2 : (x &&& rep d (n + 1)) / 2 ^ 8 = x / 2 ^ 8 &&& rep d (n + 1) / 2 ^ 8 := Nat.and_div_two_pow
  have e1 : rep d (n + 1) % 2 ^ 8 = d := by rw [rep]; omega
  have e2 : rep d (n + 1) / 2 ^ 8 = rep d n := by rw [rep]; omega
  rw [e1] at h1
  rw [e2] at h2
  have := Nat.div_add_mod (x &&& rep d (n + 1)) (2 ^ 8)
  rw [h1, h2] at this
  rw [← this, show (2 : Nat) ^ 8 = 256 from rfl]
  omega
def f1 (c : Nat) : Nat := (c / 2 &&& 85) + (c &&& 85)
def f2 (c : Nat) : Nat := (c / 4 &&& 51) + (c &&& 51)
def f3 (c : Nat) : Nat := c / 16 + c % 16
theorem half55 : ∀ c, c < 512 → (c / 2 % 256 &&& 85) = (c % 256 / 2 &&& 85) := by decide +kernel
theorem quart33 : ∀ c, c < 1024 → (c / 4 % 256 &&& 51) = (c % 256 / 4 &&& 51) := by decide +kernel
theorem s1 : ∀ n x, (x / 2 &&& rep 85 n) + (x &&& rep 85 n) = mapb f1 n x
  | 0, x => by simp [rep, mapb]
  | n + 1, x => by
    rw [and_rep _ _ _ (by decide), and_rep _ _ _ (by decide), mapb, ← s1 n (x / 256), f1]
    have h := half55 (x % 512) (Nat.mod_lt _ (by decide))
    rw [show x % 512 / 2 % 256 = x / 2 % 256 by omega, show x % 512 % 256 = x % 256 by omega] at h
    rw [h, show x / 2 / 256 = x / 256 / 2 by omega]
    omega
theorem s2 : ∀ n x, (x / 4 &&& rep 51 n) + (x &&& rep 51 n) = mapb f2 n x
  | 0, x => by simp [rep, mapb]
  | n + 1, x => by
    rw [and_rep _ _ _ (by decide), and_rep _ _ _ (by decide), mapb, ← s2 n (x / 256), f2]
    have h := quart33 (x % 1024) (Nat.mod_lt _ (by decide))
    rw [show x % 1024 / 4 % 256 = x / 4 % 256 by omega, show x % 1024 % 256 = x % 256 by omega] at h
    rw [h, show x / 4 / 256 = x / 256 / 4 by omega]
    omega
theorem f1_lt : ∀ c, c < 256 → f1 c < 256 := by decide +kernel
def f12 (c : Nat) : Nat := f2 (f1 c)
theorem f2_lt : ∀ c, c < 256 → f12 c < 256 ∧ f12 c / 16 ≤ 4 ∧ f12 c % 16 ≤ 4 := by decide +kernel
theorem pop8 : ∀ c, c < 256 → f3 (f12 c) = Lib.popAux 8 c := by decide +kernel
theorem mapb_mod (f : Nat → Nat) (n x : Nat) (hf : ∀ c, c < 256 → f c < 256) : mapb f (n + 1) x % 256 = f (x % 256) := by
  have := hf (x % 256) (Nat.mod_lt _ (by decide))
  rw [mapb]; omega
theorem mapb_div (f : Nat → Nat) (n x : Nat) (hf : ∀ c, c < 256 → f c < 256) : mapb f (n + 1) x / 256 = mapb f n (x / 256) := by
  have := hf (x % 256) (Nat.mod_lt _ (by decide))
  rw [mapb]; omega
theorem mapb_comp (f g : Nat → Nat) (hf : ∀ c, c < 256 → f c < 256) : ∀ n x, mapb g n (mapb f n x) = mapb (fun c => g (f c)) n x
  | 0, x => rfl
  | n + 1, x => by rw [mapb, mapb_mod f n x hf, mapb_div f n x hf, mapb_comp f g hf n, mapb]
/-- Nibbles of at most 4. -/
def Low4 : Nat → Nat → Prop
  | 0, z => z = 0
  | n + 1, z => z % 16 ≤ 4 ∧ z % 256 / 16 ≤ 4 ∧ Low4 n (z / 256)
theorem low4_f2 : ∀ n x, Low4 n (mapb f12 n x)
  | 0, x => rfl
  | n + 1, x => by
    have h := f2_lt (x % 256) (Nat.mod_lt _ (by decide))
    have e := mapb_mod f12 n x (fun c hc => (f2_lt c hc).1)
    have e2 := mapb_div f12 n x (fun c hc => (f2_lt c hc).1)
    refine ⟨?_, ?_, ?_⟩
    · have : mapb f12 (n + 1) x % 16 = mapb f12 (n + 1) x % 256 % 16 := by omega
      rw [this, e]; exact h.2.2
    · rw [e]; exact h.2.1
    · rw [e2]; exact low4_f2 n _
theorem low4_head : ∀ n z, Low4 n z → z % 16 ≤ 4
  | 0, z, h => by rw [h]; decide
  | n + 1, z, h => h.1
theorem s3 : ∀ n z, Low4 n z → (z / 16 + z &&& rep 15 n) = mapb f3 n z
  | 0, z, h => by simp [rep, mapb]
  | n + 1, z, h => by
    obtain ⟨h1, h2, h3⟩ := h
    have h4 := low4_head n _ h3
    rw [and_rep _ _ _ (by decide), mapb, ← s3 n (z / 256) h3, f3]
    have e1 : (z / 16 + z) / 256 = z / 256 / 16 + z / 256 := by omega
    rw [e1]
    have e2 : (z / 16 + z) % 256 &&& 15 = z % 256 / 16 + z % 256 % 16 := by
      have := Nat.and_two_pow_sub_one_eq_mod ((z / 16 + z) % 256) 4
      rw [show 2 ^ 4 - 1 = 15 from rfl] at this
      rw [this]
      omega
    rw [e2]
theorem popAux_mod (x : Nat) : Lib.popAux 8 x = Lib.popAux 8 (x % 256) := by
  simp only [Lib.popAux]; omega
theorem popAux_add : ∀ a f x, Lib.popAux (a + f) x = Lib.popAux a x + Lib.popAux f (x / 2 ^ a)
  | 0, f, x => by simp [Lib.popAux]
  | a + 1, f, x => by
    rw [show a + 1 + f = (a + f) + 1 by omega, Lib.popAux, popAux_add a f, Lib.popAux, Nat.div_div_eq_div_mul, show 2 ^ (a + 1) = 2 * 2 ^ a by rw [Nat.pow_succ, Nat.mul_comm]]
    omega
theorem popAux_le : ∀ f x, Lib.popAux f x ≤ f
  | 0, x => Nat.le_refl _
  | f + 1, x => by have := popAux_le f (x / 2); rw [Lib.popAux]; omega
def total : Nat → Nat → Nat
  | 0, _ => 0
  | n + 1, x => x % 256 + total n (x / 256)
theorem mapb_congr {f g : Nat → Nat} (h : ∀ c, c < 256 → f c = g c) : ∀ n x, mapb f n x = mapb g n x
  | 0, x => rfl
  | n + 1, x => by rw [mapb, mapb, h _ (Nat.mod_lt _ (by decide)), mapb_congr h n]
theorem total_pop : ∀ n x, total n (mapb (Lib.popAux 8) n x) = Lib.popAux (8 * n) x
  | 0, x => rfl
  | n + 1, x => by
    have hlt : ∀ c, c < 256 → Lib.popAux 8 c < 256 := fun c _ => by have := popAux_le 8 c; omega
    rw [total, mapb_mod _ n x hlt, mapb_div _ n x hlt, total_pop n, ← popAux_mod, show 8 * (n + 1) = 8 + 8 * n by omega, popAux_add]
/-- Digits of at most 8, summed up. -/
def Low8 : Nat → Nat → Prop
  | 0, z => z = 0
  | n + 1, z => z % 256 ≤ 8 ∧ Low8 n (z / 256)
theorem low8_pop : ∀ n x, Low8 n (mapb (Lib.popAux 8) n x)
  | 0, x => rfl
  | n + 1, x => by
    have hlt : ∀ c, c < 256 → Lib.popAux 8 c < 256 := fun c _ => by have := popAux_le 8 c; omega
    exact ⟨by rw [mapb_mod _ n x hlt]; exact popAux_le 8 _, by rw [mapb_div _ n x hlt]; exact low8_pop n _⟩
theorem low8_dig : ∀ n z, Low8 (n + 1) z → ∃ d y, z = d + 256 * y ∧ d ≤ 8 ∧ Low8 n y ∧ total (n + 1) z = d + total n y := by
  intro n z h
  exact ⟨z % 256, z / 256, by omega, h.1, h.2, rfl⟩
theorem div_of (r q b : Nat) (h : r < b) : (r + b * q) / b = q := by
  rw [Nat.add_mul_div_left _ _ (by omega), Nat.div_eq_of_lt h, Nat.zero_add]
theorem mod_of (r q b : Nat) (h : r < b) : (r + b * q) % b = r := by
  rw [Nat.add_mul_mod_self_left, Nat.mod_eq_of_lt h]
theorem q2eq (z z1 z2 z3 d0 d1 d2 : Nat) (e0 : z = d0 + 256 * z1) (e1 : z1 = d1 + 256 * z2) (e2 : z2 = d2 + 256 * z3) : z + z1 = (d0 + 257 * d1 + 256 * d2) + 65536 * (z2 + z3) := by omega
theorem q3eq (z z1 z2 z3 z4 z5 z6 z7 d0 d1 d2 d3 d4 d5 d6 : Nat) (e0 : z = d0 + 256 * z1) (e1 : z1 = d1 + 256 * z2) (e2 : z2 = d2 + 256 * z3) (e3 : z3 = d3 + 256 * z4) (e4 : z4 = d4 + 256 * z5) (e5 : z5 = d5 + 256 * z6) (e6 : z6 = d6 + 256 * z7) :
    z + z1 + (z2 + z3) = ((d0 + d1 + d2 + d3) + 256 * (d1 + d2 + d3 + d4) + 65536 * (d2 + d3 + d4 + d5) + 16777216 * (d3 + d4 + d5 + d6)) + 4294967296 * (z4 + z5 + z6 + z7) := by omega
theorem q4eq (s0 s1 s2 s3 z4 z5 z6 z7 d4 d5 d6 d7 : Nat) (e4 : z4 = d4 + 256 * z5) (e5 : z5 = d5 + 256 * z6) (e6 : z6 = d6 + 256 * z7) (e7 : z7 = d7) :
    (s0 + 256 * s1 + 65536 * s2 + 16777216 * s3) + 4294967296 * (z4 + z5 + z6 + z7) + (z4 + z5 + z6 + z7) = (s0 + d4 + d5 + d6 + d7) + 128 * (2 * s1 + 512 * s2 + 131072 * s3 + 33554432 * (z4 + z5 + z6 + z7) + 2 * z5 + 2 * z6 + 2 * z7) := by omega
theorem bd (z z1 z2 z3 z4 z5 z6 z7 d0 d1 d2 d3 d4 d5 d6 d7 : Nat) (e0 : z = d0 + 256 * z1) (e1 : z1 = d1 + 256 * z2) (e2 : z2 = d2 + 256 * z3) (e3 : z3 = d3 + 256 * z4) (e4 : z4 = d4 + 256 * z5) (e5 : z5 = d5 + 256 * z6) (e6 : z6 = d6 + 256 * z7) (e7 : z7 = d7)
  (b0 : d0 ≤ 8) (b1 : d1 ≤ 8) (b2 : d2 ≤ 8) (b3 : d3 ≤ 8) (b4 : d4 ≤ 8) (b5 : d5 ≤ 8) (b6 : d6 ≤ 8) (b7 : d7 ≤ 8) : z < 651017283253225473 := by
  have h6 : z6 ≤ 2056 := by omega
  have h5 : z5 ≤ 526344 := by omega
  have h4 : z4 ≤ 134744072 := by omega
  have h3 : z3 ≤ 34494482440 := by omega
  have h2 : z2 ≤ 8830587504648 := by omega
  have h1 : z1 ≤ 2260630401189896 := by omega
  omega
theorem lt2 (d0 d1 d2 : Nat) (b0 : d0 ≤ 8) (b1 : d1 ≤ 8) (b2 : d2 ≤ 8) : d0 + 257 * d1 + 256 * d2 < 65536 := by omega
theorem lt3 (d0 d1 d2 d3 d4 d5 d6 : Nat) (b0 : d0 ≤ 8) (b1 : d1 ≤ 8) (b2 : d2 ≤ 8) (b3 : d3 ≤ 8) (b4 : d4 ≤ 8) (b5 : d5 ≤ 8) (b6 : d6 ≤ 8) : (d0 + d1 + d2 + d3) + 256 * (d1 + d2 + d3 + d4) + 65536 * (d2 + d3 + d4 + d5) + 16777216 * (d3 + d4 + d5 + d6) < 4294967296 := by omega
theorem lt4 (d0 d1 d2 d3 d4 d5 d6 d7 : Nat) (b0 : d0 ≤ 8) (b1 : d1 ≤ 8) (b2 : d2 ≤ 8) (b3 : d3 ≤ 8) (b4 : d4 ≤ 8) (b5 : d5 ≤ 8) (b6 : d6 ≤ 8) (b7 : d7 ≤ 8) : (d0 + d1 + d2 + d3) + d4 + d5 + d6 + d7 < 128 := by omega
theorem eq4 (d0 d1 d2 d3 d4 d5 d6 d7 : Nat) : (d0 + d1 + d2 + d3) + d4 + d5 + d6 + d7 = d0 + (d1 + (d2 + (d3 + (d4 + (d5 + (d6 + (d7 + 0))))))) := by omega
theorem sum8 (z : Nat) (h : Low8 8 z) : z < 651017283253225473 ∧ (z + z / 256 + (z + z / 256) / 65536 + (z + z / 256 + (z + z / 256) / 65536) / 4294967296) % 128 = total 8 z := by
  obtain ⟨d0, z1, e0, b0, h1, t0⟩ := low8_dig 7 z h
  obtain ⟨d1, z2, e1, b1, h2, t1⟩ := low8_dig 6 z1 h1
  obtain ⟨d2, z3, e2, b2, h3, t2⟩ := low8_dig 5 z2 h2
  obtain ⟨d3, z4, e3, b3, h4, t3⟩ := low8_dig 4 z3 h3
  obtain ⟨d4, z5, e4, b4, h5, t4⟩ := low8_dig 3 z4 h4
  obtain ⟨d5, z6, e5, b5, h6, t5⟩ := low8_dig 2 z5 h5
  obtain ⟨d6, z7, e6, b6, h7, t6⟩ := low8_dig 1 z6 h6
  obtain ⟨d7, z8, e7, b7, h8, t7⟩ := low8_dig 0 z7 h7
  have e8 : z8 = 0 := h8
  have t8 : total 0 z8 = 0 := rfl
  subst e8
  rw [Nat.mul_zero, Nat.add_zero] at e7
  rw [t0, t1, t2, t3, t4, t5, t6, t7, t8]
  clear t0 t1 t2 t3 t4 t5 t6 t7 t8 h h1 h2 h3 h4 h5 h6 h7 h8
  refine ⟨bd z z1 z2 z3 z4 z5 z6 z7 d0 d1 d2 d3 d4 d5 d6 d7 e0 e1 e2 e3 e4 e5 e6 e7 b0 b1 b2 b3 b4 b5 b6 b7, ?_⟩
  have q1 : z / 256 = z1 := by rw [e0]; exact div_of _ _ _ (Nat.lt_of_le_of_lt b0 (by decide))
  have E2 := q2eq z z1 z2 z3 d0 d1 d2 e0 e1 e2
  have q2 : (z + z1) / 65536 = z2 + z3 := by rw [E2]; exact div_of _ _ _ (lt2 d0 d1 d2 b0 b1 b2)
  have E3 := q3eq z z1 z2 z3 z4 z5 z6 z7 d0 d1 d2 d3 d4 d5 d6 e0 e1 e2 e3 e4 e5 e6
  have q3 : (z + z1 + (z2 + z3)) / 4294967296 = z4 + z5 + z6 + z7 := by rw [E3]; exact div_of _ _ _ (lt3 d0 d1 d2 d3 d4 d5 d6 b0 b1 b2 b3 b4 b5 b6)
  have E4 := q4eq (d0 + d1 + d2 + d3) (d1 + d2 + d3 + d4) (d2 + d3 + d4 + d5) (d3 + d4 + d5 + d6) z4 z5 z6 z7 d4 d5 d6 d7 e4 e5 e6 e7
  rw [q1, q2, q3, E3, E4, mod_of _ _ _ (lt4 d0 d1 d2 d3 d4 d5 d6 d7 b0 b1 b2 b3 b4 b5 b6 b7), eq4]
/-- The word's bits. -/
theorem pop_word (x : Nat) : let x1 := (x / 2 &&& 6148914691236517205) + (x &&& 6148914691236517205); let x2 := (x1 / 4 &&& 3689348814741910323) + (x1 &&& 3689348814741910323); let z := x2 / 16 + x2 &&& 1085102592571150095
    z < 651017283253225473 ∧ (z + z / 256 + (z + z / 256) / 65536 + (z + z / 256 + (z + z / 256) / 65536) / 4294967296) % 128 = Lib.onesCount x := by
  intro x1 x2 z
  have e1 : x1 = mapb f1 8 x := by show (x / 2 &&& rep 85 8) + (x &&& rep 85 8) = _; exact s1 8 x
  have e2 : x2 = mapb f2 8 (mapb f1 8 x) := by rw [← e1]; show (x1 / 4 &&& rep 51 8) + (x1 &&& rep 51 8) = _; exact s2 8 x1
  have e5 : x2 = mapb f12 8 x := by rw [e2, mapb_comp f1 f2 f1_lt]; rfl
  have e3 : z = mapb f3 8 x2 := by show (x2 / 16 + x2 &&& rep 15 8) = _; exact s3 8 x2 (by rw [e5]; exact low4_f2 8 _)
  have e4 : z = mapb (Lib.popAux 8) 8 x := by
    rw [e3, e5, mapb_comp f12 f3 (fun c hc => (f2_lt c hc).1)]
    exact mapb_congr pop8 8 x
  have h := sum8 z (by rw [e4]; exact low8_pop 8 x)
  refine ⟨h.1, h.2.trans ?_⟩
  rw [e4, total_pop]; rfl
end Go.Proofs.YtcgfheagbaafoaaDoor.Pop
