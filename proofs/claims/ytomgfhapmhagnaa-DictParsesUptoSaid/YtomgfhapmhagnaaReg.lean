/- Steps of regions that draw their order: what is known may grow on the way; calls of function values. -/
import Derived.Test.YtomgfhapmhagnaaLib
namespace Go.Proofs.Ytomgfhapmhagnaa.Lib
set_option linter.unusedVariables false
set_option linter.unusedSimpArgs false
open Go.RowKit Go.Proofs.YtomgfhapmhagnaaW.PrintWords Go.Proofs.YtomgfhapmhagnaaW.PrintLast

section
variable {P : Program} {ops : Array Oper} {Q : Exit → Act → World → Prop} {md : Region.Mode} {S S' : World → Prop}
theorem more_all (hSS : ∀ w, S' w → S w) : ∀ (fuel : Nat) (l : Array Bool) (a : Act) (w : World), S' w → wpAnyLast P md ops Q S' [] fuel l a w → wpAnyLast P md ops Q S [] fuel l a w
  | 0, _, _, _, _, h => h
  | fuel + 1, l, a, w, hw, h => ⟨h.1, fun i hi => wpOp_mono (fun a' w' h' => ⟨fun _ _ => hSS _ (h'.1 (by simp) hw), more_all hSS fuel _ a' w' (h'.1 (by simp) hw) h'.2⟩) (h.2 i hi)⟩
/-- From here on more is known of the world, and stays so. -/
theorem more_ {fuel : Nat} {l : Array Bool} {a : Act} {w : World} (hSS : ∀ w, S' w → S w) (hw : S' w) (h : S' w → wpAnyLast P md ops Q S' [] fuel l a w) : wpAnyLast P md ops Q S [] fuel l a w :=
  more_all hSS fuel l a w hw (h hw)
/-- A call of a function value in a region that draws. -/
theorem goesv_ {oi : Oper} {N : Option Tmp} {a : Act} {w : World} {K : Act → World → Prop} {f : FuncId} {fn : Func} {x : Operand} {ars : Array Operand} {ts : Array TypeId} {first cap : Array Value} (hf : P.funcs[f]? = some fn) (hname : (fn.name == "runtime.NumGoroutine") = false) (hb : fn.body.isSome = true) (args : Array Value)
    (hw : Region.wanted oi (yielded ops a.tmps) = true) (hN : oi.dst = N) (hop : oi.op = .call { callee := .value x, args := ars, argTypes := ts }) (hx : a.eval x = .func (.func f) first cap) (hargs : ars.map a.eval = args)
    (h : Calls P f (first ++ args ++ cap) w fun e w' => ∃ v, e = .returned v ∧ K (a.put N v) w') : if Region.wanted oi (yielded ops a.tmps) = true then Oper.wp P oi a w K Q else K (a.put N undef) w := by
  refine call_ f (first ++ args ++ cap) hw hN ?_ h
  have he := enters_ hf hname hb (first ++ args ++ cap) w
  unfold execOp
  simp [hop, resolve, Deferred.ofValue, hx, invoke, hargs, he, -Array.append_assoc]
end
/-- make([]T, 0, c), laid ahead of the walk; the row that it is. -/
theorem make0_run {P : Program} (t e : TypeId) (z : Value) (size bytes : Nat) (ht : P.underlying t = some (.slice e)) (hinfo : (P.info? e).map (fun i => (i.zero, i.size, i.bytes)) = some (some z, size, bytes)) (c : Nat) (hl : bytes * c ≤ 281474976710656) (hc : c ≤ 9223372036854775807) :
    ∀ W : World, (Instr.makeSlice t (.int .i64 0) (.int .i64 (c : Int))).run P W = .ok (.slice (some ⟨W.heap.size, 0, none⟩) 0 c) (W.alloc (.cells (madeCells z.cells (c * size)) e)) := by
  intro W
  obtain ⟨i0, hi, hzz⟩ := Option.map_eq_some_iff.1 hinfo
  simp only [Prod.mk.injEq] at hzz
  obtain ⟨hz0, hz1, hz2⟩ := hzz
  have h2 := run_make (P := P) W t e i0 z ht hi hz0 .i64 .i64 0 (c : Int) (by omega) (by omega) (by rw [hz2]; have : ((bytes * c : Nat) : Int) ≤ 281474976710656 := by omega
                                                                                                    rwa [Int.natCast_mul] at this) (by omega)
  rw [hz1] at h2
  simpa using h2
theorem make0_run1 {P : Program} (t e : TypeId) (z : Value) (bytes : Nat) (ht : P.underlying t = some (.slice e)) (hinfo : (P.info? e).map (fun i => (i.zero, i.size, i.bytes)) = some (some z, 1, bytes)) (hz : z.cells = #[z]) (c : Nat) (hl : bytes * c ≤ 281474976710656) (hc : c ≤ 9223372036854775807) :
    ∀ W : World, (Instr.makeSlice t (.int .i64 0) (.int .i64 (c : Int))).run P W = .ok (.slice (some ⟨W.heap.size, 0, none⟩) 0 c) (W.alloc (.cells (madeCells #[z] c) e)) := by
  intro W
  have h := make0_run t e z 1 bytes ht hinfo c hl hc W
  rw [hz, Nat.mul_one] at h
  exact h
theorem make0_R1 {α : Type} {enc : α → Value} {h1 : ∀ x, (enc x).oneCell' = true} (W : World) (base e : Nat) (z : Value) (hz : z.cells = #[z]) (c : Nat) (hbase : base ≤ W.heap.size) (hc : c ≤ 9223372036854775807) :
    (Kd.scalar enc h1).R e (W.alloc (.cells (madeCells #[z] c) e)) base (fun _ => True) (.slice (some ⟨W.heap.size, 0, none⟩) 0 c) [] := by
  have h := World.ownsRow_made (base := base) (e := e) (size := 1) W (madeCells z.cells (c * 1)) c hbase (by unfold maxLen; exact hc) (size_madeCells _ _)
  rw [hz, Nat.mul_one] at h
  exact ⟨fun _ _ => trivial, [], h, Reps.none _ _⟩
section
variable {P : Program} {ops : Array Oper} {Q : Exit → Act → World → Prop}
/-- A call of a function value in a plain region, as an arm of go_wp2_with. -/
theorem goesLv_ {rest : List Oper} {oi : Oper} {a : Act} {w : World} (N : Option Tmp) (hd : oi.dst = N) (hg : oi.guard = none) {f : FuncId} {fn : Func} {x : Operand} {ars : Array Operand} {ts : Array TypeId} {first cap : Array Value} (hf : P.funcs[f]? = some fn) (hname : (fn.name == "runtime.NumGoroutine") = false) (hb : fn.body.isSome = true) (args : Array Value)
    (hop : oi.op = .call { callee := .value x, args := ars, argTypes := ts }) (hx : a.eval x = .func (.func f) first cap) (hargs : ars.map a.eval = args)
    (h : Calls P f (first ++ args ++ cap) w fun e w' => ∃ v, e = .returned v ∧ wpList P ops Q rest (a.put N v) w') : wpList P ops Q (oi :: rest) a w := by
  refine wpList_plain hg fun K hK => ?_
  have he := enters_ hf hname hb (first ++ args ++ cap) w
  have hrun : (execOp a.eval oi).run P w = .ok (.enter f (first ++ args ++ cap)) w := by
    unfold execOp
    simp [hop, resolve, Deferred.ofValue, hx, invoke, hargs, he, -Array.append_assoc]
  unfold Oper.wp
  rw [hrun, Oper.upon_enter]
  refine h.mono fun e w'' hh => ?_
  obtain ⟨v, rfl, hk⟩ := hh
  rw [hd]
  exact hK _ _ hk
end
end Go.Proofs.Ytomgfhapmhagnaa.Lib
