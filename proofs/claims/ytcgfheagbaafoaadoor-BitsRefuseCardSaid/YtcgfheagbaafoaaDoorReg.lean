/- Steps of regions that draw their order: what is known may grow on the way; calls of function values. -/
import Derived.Test.YtcgfheagbaafoaaDoorLib
namespace Go.Proofs.YtcgfheagbaafoaaDoor.Lib
set_option linter.unusedVariables false
set_option linter.unusedSimpArgs false
open Go.RowKit Go.Proofs.YtcgfheagbaafoaaDoorW.PrintWords Go.Proofs.YtcgfheagbaafoaaDoorW.PrintLast

section
variable {P : Program} {ops : Array Oper} {Q : Exit → Act → World → Prop} {md : Region.Mode} {S S' : World → Prop}
theorem more_all (hSS : ∀ w, S' w → S w) : ∀ (fuel : Nat) (l : Array Bool) (a : Act) (w : World), S' w → wpAnyLast P md ops Q S' [] fuel l a w → wpAnyLast P md ops Q S [] fuel l a w
  | 0, _, _, _, _, h => h
  | fuel + 1, l, a, w, hw, h => ⟨h.1, fun i hi => wpOp_mono (fun a' w' h' => ⟨fun _ _ => hSS _ (h'.1 (by simp) hw), more_all hSS fuel _ a' w' (h'.1 (by simp) hw) h'.2⟩) (h.2 i hi)⟩
/-- From here on more is known of the world, and stays so. -/
theorem more_ {fuel : Nat} {l : Array Bool} {a : Act} {w : World} (hSS : ∀ w, S' w → S w) (hw : S' w) (h : S' w → wpAnyLast P md ops Q S' [] fuel l a w) : wpAnyLast P md ops Q S [] fuel l a w :=
  more_all hSS fuel l a w hw (h hw)
/-- A call of a function value in a region that draws. -/
theorem goesv_ {oi : Oper} {N : Option Tmp} {a : Act} {w : World} {K : Act → World → Prop} {f : FuncId} {fn : Func} {x : Operand} {ars : Array Operand} {ts : Array TypeId} {first cap : Array Value} (hf : P.funcs[f]? = some fn) (hname : (fn.name == "runtime.NumGoroutine") = false) (hb : fn.body.isSome = true) (args : Array Value)
    (hw : Region.wanted oi (yielded ops a.tmps) = true) (hN : oi.dst = N) (hop : oi.op = .call { callee := .value x, args := ars, argTypes := ts }) (hx : a.eval x = .func (.func f) first cap) (hargs : ars.map a.eval = args)
    (h : Calls P f (first ++ args ++ cap) w fun e w' => ∃ v, e = .returned v ∧ K (a.put N v) w') : if Region.wanted oi (yielded ops a.tmps) = true then Oper.wp P oi a w K Q else K (a.put N undef) w := by
  refine call_ f (first ++ args ++ cap) hw hN ?_ h
  have he := enters_ hf hname hb (first ++ args ++ cap) w
  unfold execOp
  simp [hop, resolve, Deferred.ofValue, hx, invoke, hargs, he, -Array.append_assoc]
end
end Go.Proofs.YtcgfheagbaafoaaDoor.Lib
