/- A frame of which up to 32 bits side by side are changed is no frame: plain Lean, no program in sight. -/
import Derived.Test.YtobddbkffefbkaaCrc
namespace Go.Proofs.Ytobddbkffefbkaa.Turn
set_option linter.unusedVariables false
set_option linter.unusedSimpArgs false
open Go.RowKit Go.Proofs.YtobddbkffefbkaaW.PrintWords Go.Proofs.Ytobddbkffefbkaa.Lib Go.Proofs.Ytobddbkffefbkaa.Crc

/-! ### the register, bit by bit -/
theorem shf_zero : shf 0 = 0 := rfl
theorem shf_one : shf 1 = 3988292384 := by decide
theorem xor_self_right (a b : Nat) : a ^^^ b ^^^ b = a := by rw [Nat.xor_assoc, Nat.xor_self, Nat.xor_zero]
theorem xor_zero_eq {a b : Nat} (h : a ^^^ b = 0) : a = b := by
  have h1 := congrArg (· ^^^ b) h
  simpa only [xor_self_right, Nat.zero_xor] using h1
theorem shf_xor (a b : Nat) : shf (a ^^^ b) = shf a ^^^ shf b := by
  unfold shf
  rw [xor_mod2, xor_div2]
  by_cases ha : a % 2 = 1 <;> by_cases hb : b % 2 = 1
  · rw [if_neg (by omega), if_pos ha, if_pos hb]
    rw [Nat.xor_comm (b / 2), ← Nat.xor_assoc, xor_self_right]
  · rw [if_pos (by omega), if_pos ha, if_neg hb]
    rw [Nat.xor_assoc, Nat.xor_assoc, Nat.xor_comm (b / 2)]
  · rw [if_pos (by omega), if_neg ha, if_pos hb, Nat.xor_assoc]
  · rw [if_neg (by omega), if_neg ha, if_neg hb]
theorem top_set {y : Nat} (h : y < 2147483648) : 2147483648 ≤ y ^^^ 3988292384 := by
  rcases Nat.lt_or_ge (y ^^^ 3988292384) 2147483648 with h1 | h1
  · exfalso
    have h2 : (y ^^^ 3988292384) ^^^ y < 2 ^ 31 := Nat.xor_lt_two_pow h1 h
    rw [Nat.xor_comm, ← Nat.xor_assoc, Nat.xor_self, Nat.zero_xor] at h2
    exact absurd h2 (by decide)
  · exact h1
theorem shf_small {y j : Nat} (hy : y < 4294967296) (hj : j ≤ 31) (h : shf y < 2 ^ j) : y < 2 ^ (j + 1) := by
  unfold shf at h
  split at h
  · have h1 := top_set (show y / 2 < 2147483648 by omega)
    have h2 : 2 ^ j ≤ 2 ^ 31 := Nat.pow_le_pow_right (by decide) hj
    omega
  · rw [Nat.pow_succ]; omega
theorem xor_bit_small {d b j : Nat} (hb : b < 2) (h : d ^^^ b < 2 ^ (j + 1)) : d < 2 ^ (j + 1) := by
  have h1 : b < 2 ^ (j + 1) := Nat.lt_of_lt_of_le hb (by
    have : 2 ^ 1 ≤ 2 ^ (j + 1) := Nat.pow_le_pow_right (by decide) (by omega)
    simpa using this)
  have h2 := Nat.xor_lt_two_pow h h1
  rwa [xor_self_right] at h2

/-- The difference of two registers, as the differences of bits come in. -/
def diff (d : Nat) (l : List Nat) : Nat := l.foldl (fun d b => shf (d ^^^ b)) d
theorem diff_small (l : List Nat) : ∀ d, d < 4294967296 → (∀ b ∈ l, b < 2) → l.length ≤ 32 → diff d l = 0 → d < 2 ^ l.length := by
  induction l with
  | nil => intro d _ _ _ h; rw [show d = 0 from h]; decide
  | cons b l ih =>
    intro d hd hb hl h
    have hb0 := hb b List.mem_cons_self
    rw [List.length_cons] at hl ⊢
    have hlt : d ^^^ b < 4294967296 := xor_lt32 hd (by omega)
    have h1 := ih (shf (d ^^^ b)) (shf_lt hlt) (fun x hx => hb x (List.mem_cons_of_mem _ hx)) (by omega) h
    exact xor_bit_small hb0 (shf_small hlt (by omega) h1)
theorem diff_zero (l : List Nat) : (∀ b ∈ l, b < 2) → l.length ≤ 32 → diff 0 l = 0 → ∀ b ∈ l, b = 0 := by
  induction l with
  | nil => intro _ _ _ b hb; cases hb
  | cons b l ih =>
    intro hb hl h
    have hb0 := hb b List.mem_cons_self
    rw [List.length_cons] at hl
    have hr : ∀ x ∈ l, x < 2 := fun x hx => hb x (List.mem_cons_of_mem _ hx)
    have h0 : diff (shf (0 ^^^ b)) l = 0 := h
    rw [Nat.zero_xor] at h0
    have hz : b = 0 := by
      rcases Nat.lt_or_ge b 1 with h1 | h1
      · omega
      · have h2 : b = 1 := by omega
        rw [h2, shf_one] at h0
        have h3 := diff_small l _ (by decide) hr (by omega) h0
        have h4 : 2 ^ l.length ≤ 2 ^ 31 := Nat.pow_le_pow_right (by decide) (by omega)
        omega
    intro x hx
    rcases List.mem_cons.1 hx with rfl | hx
    · exact hz
    · rw [hz, shf_zero] at h0
      exact ih hr (by omega) h0 x hx
def reg (x : Nat) (l : List Nat) : Nat := l.foldl bitstep x
theorem reg_lt (l : List Nat) : ∀ x, x < 4294967296 → reg x l < 4294967296 := by
  induction l with
  | nil => intro x h; exact h
  | cons b l ih => intro x h; exact ih _ (bitstep_lt b h)
theorem reg_append (x : Nat) (l m : List Nat) : reg x (l ++ m) = reg (reg x l) m := List.foldl_append
theorem reg_diff (l : List Nat) : ∀ (m : List Nat) (x y : Nat), l.length = m.length → (∀ b ∈ l, b < 2) → (∀ b ∈ m, b < 2) → reg x l ^^^ reg y m = diff (x ^^^ y) (List.zipWith (· ^^^ ·) l m) := by
  induction l with
  | nil => intro m x y h _ _; rw [List.length_nil] at h; rw [List.eq_nil_of_length_eq_zero h.symm]; rfl
  | cons b l ih =>
    intro m x y h hb hc
    rcases m with _ | ⟨c, m⟩
    · simp at h
    · have h1 : l.length = m.length := by simpa using h
      have hb0 := hb b List.mem_cons_self
      have hc0 := hc c List.mem_cons_self
      have h2 := ih m (bitstep x b) (bitstep y c) h1 (fun z hz => hb z (List.mem_cons_of_mem _ hz)) (fun z hz => hc z (List.mem_cons_of_mem _ hz))
      show reg (bitstep x b) l ^^^ reg (bitstep y c) m = diff (shf ((x ^^^ y) ^^^ (b ^^^ c))) _
      rw [h2, bitstep_eq _ _ hb0, bitstep_eq _ _ hc0, ← shf_xor]
      congr 2
      rw [Nat.xor_assoc, Nat.xor_assoc, ← Nat.xor_assoc b, ← Nat.xor_assoc y, Nat.xor_comm b y]
theorem shf_inj {x y : Nat} (hx : x < 4294967296) (hy : y < 4294967296) (h : shf x = shf y) : x = y := by
  have h1 : shf (x ^^^ y) = 0 := by rw [shf_xor, h, Nat.xor_self]
  have h2 := shf_small (j := 0) (xor_lt32 hx hy) (by decide) (by rw [h1]; decide)
  have h3 : x ^^^ y = 0 := by
    have h4 : x ^^^ y = 0 ∨ x ^^^ y = 1 := by omega
    rcases h4 with h4 | h4
    · exact h4
    · rw [h4, shf_one] at h1; exact absurd h1 (by decide)
  exact xor_zero_eq h3
theorem reg_inj (l : List Nat) : ∀ x y, x < 4294967296 → y < 4294967296 → (∀ b ∈ l, b < 2) → reg x l = reg y l → x = y := by
  induction l with
  | nil => intro x y _ _ _ h; exact h
  | cons b l ih =>
    intro x y hx hy hb h
    have hb0 := hb b List.mem_cons_self
    have h1 := ih (bitstep x b) (bitstep y b) (bitstep_lt b hx) (bitstep_lt b hy) (fun z hz => hb z (List.mem_cons_of_mem _ hz)) h
    rw [bitstep_eq _ _ hb0, bitstep_eq _ _ hb0] at h1
    have h2 := shf_inj (xor_lt32 hx (by omega)) (xor_lt32 hy (by omega)) h1
    have h3 := congrArg (· ^^^ b) h2
    simpa only [xor_self_right] using h3
/-- Two rows of bits that differ within 32 side by side leave unlike registers. -/
theorem window (x : Nat) (hx : x < 4294967296) (p m m' q : List Nat) (hl : m.length = m'.length) (h32 : m.length ≤ 32)
    (hm : ∀ b ∈ m, b < 2) (hm' : ∀ b ∈ m', b < 2) (hq : ∀ b ∈ q, b < 2) (h : reg x (p ++ m ++ q) = reg x (p ++ m' ++ q)) : m = m' := by
  rw [reg_append, reg_append, reg_append, reg_append] at h
  have hs := reg_lt p x hx
  have h1 := reg_inj q _ _ (reg_lt m _ hs) (reg_lt m' _ hs) hq h
  have h2 := reg_diff m m' (reg x p) (reg x p) hl hm hm'
  rw [h1, Nat.xor_self, Nat.xor_self] at h2
  have h3 := diff_zero (List.zipWith (· ^^^ ·) m m') (by
    intro b hb
    obtain ⟨i, hi, rfl⟩ := List.getElem_of_mem hb
    rw [List.getElem_zipWith]
    exact Nat.xor_lt_two_pow (n := 1) (hm _ (List.getElem_mem _)) (hm' _ (List.getElem_mem _))) (by simp; omega) h2.symm
  apply List.ext_getElem hl
  intro i h4 h5
  have h6 := h3 (m[i] ^^^ m'[i]) (List.mem_iff_getElem.2 ⟨i, by simp; omega, by rw [List.getElem_zipWith]⟩)
  exact xor_zero_eq h6

/-! ### bytes as bits -/
def bit (xs : List Int) (k : Nat) : Nat := (xs.getD (k / 8) 0).toNat / 2 ^ (k % 8) % 2
theorem bit_lt (xs : List Int) (k : Nat) : bit xs k < 2 := Nat.mod_lt _ (by decide)
def eight (c : Nat) : List Nat := (List.range 8).map fun j => c / 2 ^ j % 2
def stream : List Int → List Nat
  | [] => []
  | c :: l => eight c.toNat ++ stream l
theorem stream_length : ∀ l : List Int, (stream l).length = 8 * l.length
  | [] => rfl
  | c :: l => by rw [stream, List.length_append, stream_length l, List.length_cons]; simp [eight]; omega
theorem stream_get : ∀ (l : List Int) (k : Nat), k < 8 * l.length → (stream l)[k]? = some (bit l k)
  | [], k, h => by simp at h
  | c :: l, k, h => by
    have h8 : (eight c.toNat).length = 8 := by simp [eight]
    rw [stream]
    by_cases hk : k < 8
    · rw [List.getElem?_append_left (by omega)]
      have e0 : k / 8 = 0 := by omega
      have e1 : k % 8 = k := by omega
      simp [eight, bit, e0, e1, hk]
    · rw [List.getElem?_append_right (by omega), h8, stream_get l (k - 8) (by rw [List.length_cons] at h; omega)]
      unfold bit
      have e0 : k / 8 = (k - 8) / 8 + 1 := by omega
      have e1 : k % 8 = (k - 8) % 8 := by omega
      rw [e0, e1, List.getD_cons_succ]
theorem stream_two : ∀ (l : List Int), ∀ b ∈ stream l, b < 2
  | [], b, h => by cases h
  | c :: l, b, h => by
    rcases List.mem_append.1 h with h | h
    · obtain ⟨j, _, rfl⟩ := List.mem_map.1 h
      exact Nat.mod_lt _ (by decide)
    · exact stream_two l b h
theorem reg_eight (x c : Nat) (hc : c < 256) : reg x (eight c) = byt x c := by
  rw [← bitrun_byt x c hc]
  rfl
theorem run_reg (l : List Int) : ∀ x, Bytes l → run x l = reg x (stream l) := by
  induction l with
  | nil => intro x _; rfl
  | cons c l ih =>
    intro x hb
    have h0 := hb c List.mem_cons_self
    rw [stream, reg_append, reg_eight _ _ (by omega), ← ih _ (fun y hy => hb y (List.mem_cons_of_mem _ hy))]
    rfl
theorem byte_bits (a b : Nat) (ha : a < 256) (hb : b < 256) (h : ∀ j, j < 8 → a / 2 ^ j % 2 = b / 2 ^ j % 2) : a = b := by
  have h0 := h 0 (by decide); have h1 := h 1 (by decide); have h2 := h 2 (by decide); have h3 := h 3 (by decide)
  have h4 := h 4 (by decide); have h5 := h 5 (by decide); have h6 := h 6 (by decide); have h7 := h 7 (by decide)
  simp only [Nat.reducePow] at h0 h1 h2 h3 h4 h5 h6 h7
  omega
theorem bits_ext (l m : List Int) (hl : Bytes l) (hm : Bytes m) (he : l.length = m.length) (h : ∀ k, k < 8 * l.length → bit l k = bit m k) : l = m := by
  apply List.ext_getElem he
  intro i h1 h2
  have a0 := hl _ (List.getElem_mem h1)
  have b0 := hm _ (List.getElem_mem h2)
  have key := byte_bits l[i].toNat m[i].toNat (by omega) (by omega) (fun j hj => by
    have h3 := h (8 * i + j) (by omega)
    unfold bit at h3
    rw [show (8 * i + j) / 8 = i by omega, show (8 * i + j) % 8 = j by omega, List.getD_eq_getElem?_getD, List.getD_eq_getElem?_getD, List.getElem?_eq_getElem h1, List.getElem?_eq_getElem h2] at h3
    exact h3)
  omega
/-- Bytes that differ within 32 bits side by side have unlike sums. -/
theorem sum_window (l m : List Int) (hl : Bytes l) (hm : Bytes m) (he : l.length = m.length) (a : Nat)
    (h : ∀ k, k < 8 * l.length → (k < a ∨ a + 32 ≤ k) → bit l k = bit m k) (hs : sum l = sum m) : l = m := by
  have h0 : run 4294967295 l = run 4294967295 m := by
    have h1 := congrArg (4294967295 ^^^ ·) hs
    unfold sum at h1
    simpa only [← Nat.xor_assoc, Nat.xor_self, Nat.zero_xor] using h1
  rw [run_reg _ _ hl, run_reg _ _ hm] at h0
  have hlen : (stream l).length = (stream m).length := by rw [stream_length, stream_length, he]
  have hget : ∀ k, (k < a ∨ a + 32 ≤ k) → (stream l)[k]? = (stream m)[k]? := fun k hk => by
    by_cases hk2 : k < 8 * l.length
    · rw [stream_get l k hk2, stream_get m k (by omega), h k hk2 hk]
    · rw [List.getElem?_eq_none (by rw [stream_length]; omega), List.getElem?_eq_none (by rw [stream_length]; omega)]
  have hp : (stream l).take a = (stream m).take a := by
    apply List.ext_getElem?
    intro k
    rw [List.getElem?_take, List.getElem?_take]
    split
    · exact hget k (Or.inl ‹_›)
    · rfl
  have hq : (stream l).drop (a + 32) = (stream m).drop (a + 32) := by
    apply List.ext_getElem?
    intro k
    rw [List.getElem?_drop, List.getElem?_drop]
    exact hget _ (Or.inr (by omega))
  have split : ∀ s : List Nat, s = s.take a ++ (s.drop a).take 32 ++ s.drop (a + 32) := fun s => by
    rw [List.append_assoc, ← List.drop_drop, List.take_append_drop, List.take_append_drop]
  rw [split (stream l), split (stream m), hp, hq] at h0
  have hw := window _ (by decide) _ _ _ _ (by rw [List.length_take, List.length_take, List.length_drop, List.length_drop, hlen]) (by rw [List.length_take]; omega)
    (fun b hb => stream_two l b (List.mem_of_mem_drop (List.mem_of_mem_take hb))) (fun b hb => stream_two m b (List.mem_of_mem_drop (List.mem_of_mem_take hb)))
    (fun b hb => stream_two m b (List.mem_of_mem_drop hb)) h0
  have hst : stream l = stream m := by rw [split (stream l), split (stream m), hp, hq, hw]
  refine bits_ext l m hl hm he (fun k hk => ?_)
  have h1 := stream_get l k hk
  rw [hst, stream_get m k (by omega)] at h1
  exact (Option.some.inj h1).symm
end Go.Proofs.Ytobddbkffefbkaa.Turn
