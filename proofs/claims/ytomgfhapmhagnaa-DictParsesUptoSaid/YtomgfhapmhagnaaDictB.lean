/- Dictionaries: shared, Bytes: what they answer. -/
import Derived.Test.YtomgfhapmhagnaaDict2
import Derived.Test.YtomgfhapmhagnaaBasU
import Derived.BigQuiet
namespace Go.Proofs.Ytomgfhapmhagnaa.Txt
set_option linter.unusedVariables false
set_option linter.unusedSimpArgs false
open Go.RowKit Go.Proofs.YtomgfhapmhagnaaW.PrintWords Go.Proofs.YtomgfhapmhagnaaW.PrintLast Go.Proofs.YtomgfhapmhagnaaW.PrintMore Go.Proofs.Ytomgfhapmhagnaa.Lib Go.Proofs.Ytomgfhapmhagnaa.Bas

/-- how many bytes two texts begin with alike -/
def sharedOf : T → T → Nat
  | x :: a, y :: b => if x = y then sharedOf a b + 1 else 0
  | _, _ => 0
theorem sharedOf_nil (a : T) : sharedOf [] a = 0 := by cases a <;> rfl
theorem sharedOf_le : ∀ a b : T, sharedOf a b ≤ a.length ∧ sharedOf a b ≤ b.length
  | [], b => by rw [sharedOf_nil]; exact ⟨Nat.zero_le _, Nat.zero_le _⟩
  | x :: a, [] => by simp [sharedOf]
  | x :: a, y :: b => by
    have h := sharedOf_le a b
    unfold sharedOf
    split <;> simp <;> omega
theorem shared_is : ∀ (a b : T) (n : Nat), n ≤ a.length → n ≤ b.length → (∀ i, i < n → a.getD i 0 = b.getD i 0) → (n < a.length → n < b.length → a.getD n 0 ≠ b.getD n 0) → n = sharedOf a b
  | [], b, n, h1, _, _, _ => by rw [sharedOf_nil]; simpa using h1
  | x :: a, [], n, _, h2, _, _ => by simp only [sharedOf]; simpa using h2
  | x :: a, y :: b, 0, _, _, _, h4 => by
    have := h4 (by simp) (by simp)
    simp only [List.getD_cons_zero] at this
    simp [sharedOf, this]
  | x :: a, y :: b, n + 1, h1, h2, h3, h4 => by
    have e := h3 0 (by omega)
    simp only [List.getD_cons_zero] at e
    rw [sharedOf, if_pos e]
    congr 1
    refine shared_is a b n (by simpa using h1) (by simpa using h2) (fun i hi => by have := h3 (i + 1) (by omega); simpa using this) (fun g1 g2 => by have := h4 (by simpa using g1) (by simpa using g2); simpa using this)
theorem byte_getD (s : ByteArray) (i : Nat) (h : i < s.size) : s[i] = s.data.toList.getD i 0 := by
  rw [List.getD_eq_getElem?_getD, List.getElem?_eq_getElem (by simpa using h)]
  rfl
set_option maxRecDepth 100000 in
set_option maxHeartbeats 800000 in
theorem shared_calls (a b : ByteArray) (w : World) (ha : a.size ≤ 9223372036854775807) (hb : b.size ≤ 9223372036854775807) :
    Calls Try.prog 35 #[.string a, .string b] w fun e w' => e = .returned (.int .i64 (sharedOf a.data.toList b.data.toList : Nat)) ∧ Drawn0 w w' := by
  have HI := Aside0.mk (shared_is a.data.toList b.data.toList)
  obtain ⟨r, hr⟩ : ∃ r, sharedOf a.data.toList b.data.toList = r := ⟨_, rfl⟩
  rw [hr] at HI ⊢
  clear hr
  go_enter Try.func35, Try.ntmps35
  go_wp2_with fail
  go_loopw [5] (fun nv w' => ∃ n : Nat, n ≤ a.size ∧ n ≤ b.size ∧ nv = .int .i64 n ∧ Aside0 (∀ i, i < n → a.data.toList.getD i 0 = b.data.toList.getD i 0) ∧ Drawn0 w w') (fun nv _ => a.size - (intOf nv).toNat)
  case atStart => exact ⟨0, Nat.zero_le _, Nat.zero_le _, rfl, ⟨fun i hi => by omega⟩, Drawn0.refl _⟩
  case round =>
    obtain ⟨n, hna, hnb, rfl, HE, HD⟩ := hrel
    have HDr := Aside0.mk HD
    clear HD
    by_cases hla : n < a.size
    · by_cases hlb : n < b.size
      · have e1 := byte_getD a n hla
        have e2 := byte_getD b n hlb
        by_cases he : a.data.toList.getD n 0 = b.data.toList.getD n 0
        · have HE2 := Aside0.mk (show ∀ i, i < n + 1 → a.data.toList.getD i 0 = b.data.toList.getD i 0 by
            intro i hi
            rcases Nat.lt_succ_iff_lt_or_eq.1 hi with h | rfl
            · exact HE.out i h
            · exact he)
          have hq : (((a[n].toNat : Nat) : Int) == ((b[n].toNat : Nat) : Int)) = true := by rw [e1, e2, he]; simp
          clear e1 e2 he HE
          go_wp2_with fail
          go_quiet (fail)
          go_wp2_with fail
          go_roundw
          case rel => exact ⟨n + 1, by omega, by omega, by go_num, HE2, HDr.out.step _⟩
          case measure => simp [intOf]; omega
        · have HX := Aside0.mk (HI.out n (by simpa using hna) (by simpa using hnb) HE.out (fun _ _ => he))
          have hq : (((a[n].toNat : Nat) : Int) == ((b[n].toNat : Nat) : Int)) = false := by
            rw [e1, e2, beq_eq_false_iff_ne]
            exact fun h => he (UInt8.toNat_inj.1 (by omega))
          clear e1 e2 he HE
          go_wp2_with fail
          go_quiet (fail)
          go_wp2_with fail
          go_ret
          exact ⟨by rw [← HX.out]; rfl, HDr.out.step _⟩
      · have HX := Aside0.mk (HI.out n (by simpa using hna) (by simpa using hnb) HE.out (fun _ h => absurd (by simpa using h) hlb))
        have hd : decide ((n : Int) < (b.size : Int)) = false := decide_eq_false (by omega)
        go_wp2_with fail
        go_quiet (fail)
        go_wp2_with fail
        go_ret
        exact ⟨by rw [← HX.out]; rfl, HDr.out.step _⟩
    · have HX := Aside0.mk (HI.out n (by simpa using hna) (by simpa using hnb) HE.out (fun h _ => absurd (by simpa using h) hla))
      have hd : decide ((n : Int) < (a.size : Int)) = false := decide_eq_false (by omega)
      go_wp2_with fail
      go_quiet (fail)
      go_wp2_with fail
      go_ret
      exact ⟨by rw [← HX.out]; rfl, HDr.out.step _⟩

def numsT (t : T) : List Int := t.map fun b => (b.toNat : Int)
theorem numsT_length (t : T) : (numsT t).length = t.length := by simp [numsT]
theorem numsT_bytes (t : T) : Bytes (numsT t) := by
  intro x hx
  simp only [numsT, List.mem_map] at hx
  obtain ⟨b, _, rfl⟩ := hx
  have := b.toNat_lt
  omega
/-- a text behind another one -/
def encOne (was t : T) : List Int := varint (sharedOf was t) ++ varint (t.length - sharedOf was t) ++ numsT (t.drop (sharedOf was t))
def encAll : T → List T → List Int
  | _, [] => []
  | was, t :: l => encOne was t ++ encAll t l
def dictBytes (l : List T) : List Int := varint l.length ++ encAll [] l
theorem encAll_snoc : ∀ (was : T) (l : List T) (t : T), encAll was (l ++ [t]) = encAll was l ++ encOne ((l.getLast?).getD was) t
  | was, [], t => by simp [encAll]
  | was, x :: l, t => by
    rw [List.cons_append, encAll, encAll, encAll_snoc x l t, List.append_assoc]
    congr 2
    cases l with
    | nil => rfl
    | cons y l => simp [List.getLast?_cons_cons, List.getLast?_cons]
theorem encOne_le (was t : T) (h : t.length ≤ 64) : (encOne was t).length ≤ 84 := by
  have h1 := sharedOf_le was t
  have v1 := varint_le10 (n := sharedOf was t) (by omega)
  have v2 := varint_le10 (n := t.length - sharedOf was t) (by omega)
  unfold encOne
  rw [List.length_append, List.length_append, numsT_length, List.length_drop]
  omega
theorem encAll_le : ∀ (was : T) (l : List T), (∀ t ∈ l, t.length ≤ 64) → (encAll was l).length ≤ 84 * l.length
  | _, [], _ => by simp [encAll]
  | was, t :: l, h => by
    have h1 := encOne_le was t (h t (by simp))
    have h2 := encAll_le t l (fun x hx => h x (by simp [hx]))
    rw [encAll, List.length_append, List.length_cons]
    omega
theorem encOne_bytes (was t : T) : Bytes (encOne was t) := ((varint_bytes _).append (varint_bytes _)).append (numsT_bytes _)
theorem encAll_bytes : ∀ (was : T) (l : List T), Bytes (encAll was l)
  | _, [] => Bytes.nil
  | was, t :: l => (encOne_bytes was t).append (encAll_bytes t l)
theorem dictBytes_bytes (l : List T) : Bytes (dictBytes l) := (varint_bytes _).append (encAll_bytes _ _)
end Go.Proofs.Ytomgfhapmhagnaa.Txt
