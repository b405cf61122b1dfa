/- The contract of law 5's alive: the examples of the chapter hold. -/
import Derived.Test.YtpggmebgndkpjaaDoorLaw5
import Derived.Test.YtpggmebgndkpjaaDoorHeld
import Derived.Test.YtpggmebgndkpjaaDoorEql
namespace Go.Proofs.YtpggmebgndkpjaaDoor
set_option linter.all false
open Go.RowKit

abbrev lit4 (a b c d : Nat) : Value := .agg #[.int .u64 (a : Int), .int .u64 (b : Int), .int .u64 (c : Int), .int .u64 (d : Int)]
theorem vec_of {n a b c d : Nat} (h0 : dg 0 n = a) (h1 : dg 1 n = b) (h2 : dg 2 n = c) (h3 : dg 3 n = d) : vec n = lit4 a b c d := by subst h0 h1 h2 h3; rfl
theorem v1 : vec 1 = .agg #[.int .u64 1, .int .u64 0, .int .u64 0, .int .u64 0] := vec_of (a := 1) (b := 0) (c := 0) (d := 0) (by decide) (by decide) (by decide) (by decide)
theorem v2 : vec 2 = .agg #[.int .u64 2, .int .u64 0, .int .u64 0, .int .u64 0] := vec_of (a := 2) (b := 0) (c := 0) (d := 0) (by decide) (by decide) (by decide) (by decide)
theorem v38 : vec 38 = .agg #[.int .u64 38, .int .u64 0, .int .u64 0, .int .u64 0] := vec_of (a := 38) (b := 0) (c := 0) (d := 0) (by decide) (by decide) (by decide) (by decide)
theorem to1 (w : World) : Calls Tryd.prog 91 #[fieldV false, .agg #[.int .u64 1, .int .u64 0, .int .u64 0, .int .u64 0]] w fun e w' => e = .returned (.agg #[.int .u64 38, .int .u64 0, .int .u64 0, .int .u64 0]) ∧ Below w.heap.size w w' := by
  have h := montTo_c false 1 (by decide) w
  rwa [show mm false 1 (rsq false) = 38 by decide, v1, v38] at h
theorem to2 (w : World) : Calls Tryd.prog 91 #[fieldV false, .agg #[.int .u64 2, .int .u64 0, .int .u64 0, .int .u64 0]] w fun e w' => e = .returned (vec 76) ∧ Below w.heap.size w w' := by
  have h := montTo_c false 2 (by decide) w
  rwa [show mm false 2 (rsq false) = 76 by decide, v2] at h
theorem from38 (w : World) : Calls Tryd.prog 112 #[fieldV false, .agg #[.int .u64 38, .int .u64 0, .int .u64 0, .int .u64 0]] w fun e w' => e = .returned (.agg #[.int .u64 1, .int .u64 0, .int .u64 0, .int .u64 0]) ∧ Below w.heap.size w w' := by
  have h := montFrom_c false 38 (by decide) w
  rwa [show mm false 38 1 = 1 by decide, v1, v38] at h
end Go.Proofs.YtpggmebgndkpjaaDoor
