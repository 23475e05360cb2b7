/- Sets: none, and sets of unlike rows, are refused. -/
import Derived.Test.YtcgfheagbaafoaaDoorMadeLaw
namespace Go.Proofs.YtcgfheagbaafoaaDoor.Sets
set_option linter.unusedVariables false
set_option linter.unusedSimpArgs false
open Go.RowKit Go.Proofs.YtcgfheagbaafoaaDoorW.PrintWords Go.Proofs.YtcgfheagbaafoaaDoorW.PrintLast Go.Proofs.YtcgfheagbaafoaaDoorW.PrintMore Go.Proofs.YtcgfheagbaafoaaDoor.Lib Go.Proofs.YtcgfheagbaafoaaDoor.Pack Go.Proofs.YtcgfheagbaafoaaDoor.PackA

set_option maxRecDepth 100000 in
set_option maxHeartbeats 400000 in
theorem like_left (w : World) (t : Option Addr) :
    Calls Tryd.prog 27 #[.pointer none, .pointer t] w fun e w' => e = .returned (.bool false) ∧ Drawn0 w w' := by
  go_enter Tryd.func27, Tryd.ntmps27
  go_wp2_with fail
  go_quiet (fail)
  go_wp2_with fail
  go_ret
  exact ⟨rfl, ⟨_, rfl⟩⟩
set_option maxRecDepth 100000 in
set_option maxHeartbeats 400000 in
theorem like_right (w : World) (s : Addr) :
    Calls Tryd.prog 27 #[.pointer (some s), .pointer none] w fun e w' => e = .returned (.bool false) ∧ Drawn0 w w' := by
  go_enter Tryd.func27, Tryd.ntmps27
  go_wp2_with fail
  go_quiet (fail)
  go_wp2_with fail
  go_ret
  exact ⟨rfl, ⟨_, rfl⟩⟩
set_option maxRecDepth 100000 in
set_option maxHeartbeats 400000 in
theorem and_no (w : World) (s t : Option Addr) (h : ∀ w', Below w.heap.size w w' → Calls Tryd.prog 27 #[.pointer s, .pointer t] w' fun e w'' => e = .returned (.bool false) ∧ Drawn0 w' w'') :
    Calls Tryd.prog 10 #[.pointer s, .pointer t] w fun e w' => e = .returned (.tuple #[.pointer none, .int .i64 1]) ∧ Below w.heap.size w w' := by
  have H := Aside0.mk h
  clear h
  go_enter Tryd.func10, Tryd.ntmps10
  go_wp2_with fail
  have hb1 : Below w.heap.size w ((w.alloc (.cells #[.pointer s] 25)).alloc (.cells #[.pointer t] 25)) := ((Below.refl _ _).alloc (Nat.le_refl _) _).alloc (by simp) _
  refine (H.out _ hb1).mono ?_
  rintro e w2 ⟨rfl, hd⟩
  have HB := Aside0.mk (below_then hb1 hb1.size hd.below)
  clear hd hb1
  go_wp2_with fail
  go_ret2
  exact ⟨rfl, HB.out⟩
set_option maxRecDepth 100000 in
set_option maxHeartbeats 400000 in
theorem or_no (w : World) (s t : Option Addr) (h : ∀ w', Below w.heap.size w w' → Calls Tryd.prog 27 #[.pointer s, .pointer t] w' fun e w'' => e = .returned (.bool false) ∧ Drawn0 w' w'') :
    Calls Tryd.prog 11 #[.pointer s, .pointer t] w fun e w' => e = .returned (.tuple #[.pointer none, .int .i64 1]) ∧ Below w.heap.size w w' := by
  have H := Aside0.mk h
  clear h
  go_enter Tryd.func11, Tryd.ntmps11
  go_wp2_with fail
  have hb1 : Below w.heap.size w ((w.alloc (.cells #[.pointer s] 25)).alloc (.cells #[.pointer t] 25)) := ((Below.refl _ _).alloc (Nat.le_refl _) _).alloc (by simp) _
  refine (H.out _ hb1).mono ?_
  rintro e w2 ⟨rfl, hd⟩
  have HB := Aside0.mk (below_then hb1 hb1.size hd.below)
  clear hd hb1
  go_wp2_with fail
  go_ret2
  exact ⟨rfl, HB.out⟩
set_option maxRecDepth 100000 in
set_option maxHeartbeats 400000 in
theorem has_none (w : World) (row : Int) :
    Calls Tryd.prog 14 #[.pointer none, .int .i64 row] w fun e w' => e = .returned (.bool false) ∧ w = w' := by
  go_enter Tryd.func14, Tryd.ntmps14
  go_wp2_with fail
  go_ret
  exact ⟨rfl, rfl⟩
set_option maxRecDepth 100000 in
set_option maxHeartbeats 400000 in
theorem rows_none (w : World) :
    Calls Tryd.prog 22 #[.pointer none] w fun e w' => e = .returned (.int .i64 0) ∧ w = w' := by
  go_enter Tryd.func22, Tryd.ntmps22
  go_wp2_with fail
  go_ret
  exact ⟨rfl, rfl⟩
set_option maxRecDepth 100000 in
set_option maxHeartbeats 400000 in
theorem list_none (w : World) :
    Calls Tryd.prog 13 #[.pointer none] w fun e w' => e = .returned (.slice none 0 0) ∧ w = w' := by
  go_enter Tryd.func13, Tryd.ntmps13
  go_wp2_with fail
  go_ret
  exact ⟨rfl, rfl⟩
end Go.Proofs.YtcgfheagbaafoaaDoor.Sets
