/- The sums of no byte and of three, by computation. -/
import Derived.Test.YtdaggankfokloaaDoorConst
namespace Go.Proofs.YtdaggankfokloaaDoor
set_option linter.all false
open Go.RowKit

def abc (j : Nat) : Nat := if j = 0 then 97 else if j = 1 then 98 else if j = 2 then 99 else 0
theorem sum_none : (sumS K s0 (fun _ => 0) 0).a = 3820012610 := by kernel_rfl
theorem sum_abc : (sumS K s0 abc 3).a = 3128432319 := by kernel_rfl
end Go.Proofs.YtdaggankfokloaaDoor
