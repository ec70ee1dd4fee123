/- Walks: small tests on sorts; what the reference wants of an operator's kids. -/
import Derived.Test.YtggkfepifnfdoaaAskG
namespace Go.Proofs.Ytggkfepifnfdoaa
open Go.RowKit

def numS (s : Int) : Bool := s == 2 || s == 3
set_option maxHeartbeats 400000 in
theorem numeric_any (n : Int) (w : World) : Calls Try.prog 89 #[.int .i64 n] w fun e w' => e = .returned (.bool (numS n)) ∧ w = w' := by
  go_enter Try.func89, Try.ntmps89
  go_wp2
  all_goals go_ret
  all_goals exact ⟨ret_bool (by simp_all [numS]), rfl⟩
set_option maxHeartbeats 400000 in
theorem isNumber_any (n : Int) (w : World) : Calls Try.prog 67 #[.int .i64 n] w fun e w' => e = .returned (.bool (numS n)) ∧ w = w' := by
  go_enter Try.func67, Try.ntmps67
  go_wp2
  all_goals go_ret
  all_goals exact ⟨ret_bool (by simp_all [numS]), rfl⟩
set_option maxHeartbeats 400000 in
theorem whole_any (b : Bool) (w : World) : Calls Try.prog 90 #[.bool b] w fun e w' => e = .returned (.int .i64 (if b then 2 else 3)) ∧ w = w' := by
  cases b
  all_goals
    go_enter Try.func90, Try.ntmps90
    go_wp2_with fail
    go_ret
    exact ⟨rfl, rfl⟩

end Go.Proofs.Ytggkfepifnfdoaa
