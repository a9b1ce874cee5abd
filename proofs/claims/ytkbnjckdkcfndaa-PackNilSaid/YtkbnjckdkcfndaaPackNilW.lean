/-
  The walk of the law PackNil.
-/
import Derived.Test.YtkbnjckdkcfndaaPackAlive
namespace Go.Proofs.Ytkbnjckdkcfndaa
open Go.RowKit

set_option maxHeartbeats 1000000 in
theorem fault_nil (w : World) : Calls Try.prog 18 #[.pointer none] w fun x w' => x = .returned (.tuple #[.int .i64 1, .int .i64 0]) ∧ w = w' := by
  go_enter Try.func18, Try.ntmps18
  go_wp2_with fail
  go_ret2
  exact ⟨rfl, rfl⟩
set_option maxHeartbeats 1000000 in
theorem left_nil (w : World) : Calls Try.prog 16 #[.pointer none] w fun x w' => x = .returned (.int .i64 0) ∧ w = w' := by
  go_enter Try.func16, Try.ntmps16
  go_wp2_with fail
  go_ret
  exact ⟨rfl, rfl⟩
set_option maxHeartbeats 1000000 in
theorem end_nil (w : World) : Calls Try.prog 20 #[.pointer none] w fun x w' => x = .returned (.int .i64 1) ∧ w = w' := by
  go_enter Try.func20, Try.ntmps20
  go_wp2_with fail
  go_ret
  exact ⟨rfl, rfl⟩
set_option maxHeartbeats 1000000 in
theorem bound_nil (m : Int) (fv : Value) (w : World) : Calls Try.prog 22 #[.pointer none, .int .u64 m, fv] w fun x w' => x = .returned (.tuple #[.int .u64 0, .int .i64 0]) ∧ w = w' := by
  go_enter Try.func22, Try.ntmps22
  go_wp2_with fail
  go_ret2
  exact ⟨rfl, rfl⟩
set_option maxHeartbeats 1000000 in
theorem num_nil (w : World) : Calls Try.prog 17 #[.pointer none] w fun x w' => x = .returned (.int .u64 0) ∧ w = w' := by
  go_enter Try.func17, Try.ntmps17
  go_wp2_with fail
  refine (bound_nil _ _ _).mono ?_
  rintro e w1 ⟨rfl, rfl⟩
  go_wp2_with fail
  go_ret
  exact ⟨rfl, rfl⟩
set_option maxHeartbeats 1000000 in
theorem text_nil (m : Int) (w : World) : Calls Try.prog 19 #[.pointer none, .int .i64 m] w fun x w' => x = .returned (.string { data := #[] }) ∧ w = w' := by
  go_enter Try.func19, Try.ntmps19
  go_wp2_with fail
  all_goals refine (bound_nil _ _ _).mono ?_
  all_goals rintro e w1 ⟨rfl, rfl⟩
  all_goals go_wp2_with fail
  all_goals go_ret
  all_goals exact ⟨rfl, rfl⟩
set_option maxHeartbeats 1000000 in
theorem count_nil (m : Int) (w : World) : Calls Try.prog 21 #[.pointer none, .int .i64 m] w fun x w' => x = .returned (.int .i64 0) ∧ w = w' := by
  go_enter Try.func21, Try.ntmps21
  go_wp2_with fail
  all_goals refine (bound_nil _ _ _).mono ?_
  all_goals rintro e w1 ⟨rfl, rfl⟩
  all_goals go_wp2_with fail
  all_goals go_ret
  all_goals exact ⟨rfl, rfl⟩

set_option maxHeartbeats 1000000 in
theorem packNil_walk (m : Int) (_hm : (Lit.int .i64 m).wf = true) (w : World) :
    Calls Try.prog 7 #[.int .i64 m] w fun e W' => e = .returned (.bool true) ∧ Below w.heap.size w W' := by
  go_enter Try.func7, Try.ntmps7
  go_wp2_with fail
  refine (fault_nil _).mono ?_
  rintro e w0 ⟨rfl, rfl⟩
  go_wp2_with fail
  refine (packAlive_any _).mono ?_
  rintro e w1 ⟨rfl, hb1⟩
  go_wp2_with fail
  refine (num_nil _).mono ?_
  rintro e w0 ⟨rfl, rfl⟩
  go_wp2_with fail
  refine (text_nil _ _).mono ?_
  rintro e w0 ⟨rfl, rfl⟩
  go_wp2_with fail
  refine (count_nil _ _).mono ?_
  rintro e w0 ⟨rfl, rfl⟩
  go_wp2_with fail
  refine (left_nil _).mono ?_
  rintro e w0 ⟨rfl, rfl⟩
  go_wp2_with fail
  refine (end_nil _).mono ?_
  rintro e w0 ⟨rfl, rfl⟩
  go_wp2_with fail
  go_ret
  exact ⟨rfl, hb1⟩
end Go.Proofs.Ytkbnjckdkcfndaa
