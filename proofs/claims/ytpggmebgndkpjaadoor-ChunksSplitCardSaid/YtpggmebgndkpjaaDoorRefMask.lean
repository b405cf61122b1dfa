/- The contracts of the reference's Modulus and Mask. -/
import Derived.Test.YtpggmebgndkpjaaDoorField
namespace Go.Proofs.YtpggmebgndkpjaaDoor
set_option linter.all false
open Go.RowKit

set_option maxRecDepth 100000 in
set_option maxHeartbeats 2000000 in
theorem refModulus_c (s : Bool) (w : World) :
    Calls Tryd.prog 57 #[.int .i64 (fid s)] w fun e w' => e = .returned (vec (pr s)) ∧ Below w.heap.size w w' := by
  cases s
  · have hv : vec (pr false) = .agg #[.int .u64 18446744073709551597, .int .u64 18446744073709551615, .int .u64 18446744073709551615, .int .u64 9223372036854775807] := rfl
    rw [hv]
    have hf : fid false = 1 := rfl
    rw [hf]
    go_enter Tryd.func57, Tryd.ntmps57
    go_wp2_with fail
    refine bodyPost_ret (v := .agg #[.int .u64 18446744073709551597, .int .u64 18446744073709551615, .int .u64 18446744073709551615, .int .u64 9223372036854775807]) (by simp only [results, Tryd.results57]; go_simp) rfl ⟨rfl, ?_⟩
    repeat first
      | with_reducible exact Below.refl _ _
      | with_reducible refine Below.drew ?_
      | with_reducible refine below_dN ?_
      | with_reducible refine Below.alloc ?_ (by first | omega | (simp; done) | (simp; omega)) _
      | with_reducible refine Below.setCell ?_ (by first | omega | (simp; done) | (simp; omega)) _
      | with_reducible refine Below.trans ?_ (Below.mono (by assumption) (by first | omega | (simp; done) | (simp; omega)))
  · have hv : vec (pr true) = .agg #[.int .u64 17562291160714782033, .int .u64 13611842547513532036, .int .u64 18446744073709551615, .int .u64 18446744069414584320] := rfl
    rw [hv]
    have hf : fid true = 2 := rfl
    rw [hf]
    go_enter Tryd.func57, Tryd.ntmps57
    go_wp2_with fail
    refine bodyPost_ret (v := .agg #[.int .u64 17562291160714782033, .int .u64 13611842547513532036, .int .u64 18446744073709551615, .int .u64 18446744069414584320]) (by simp only [results, Tryd.results57]; go_simp) rfl ⟨rfl, ?_⟩
    repeat first
      | with_reducible exact Below.refl _ _
      | with_reducible refine Below.drew ?_
      | with_reducible refine below_dN ?_
      | with_reducible refine Below.alloc ?_ (by first | omega | (simp; done) | (simp; omega)) _
      | with_reducible refine Below.setCell ?_ (by first | omega | (simp; done) | (simp; omega)) _
      | with_reducible refine Below.trans ?_ (Below.mono (by assumption) (by first | omega | (simp; done) | (simp; omega)))

end Go.Proofs.YtpggmebgndkpjaaDoor
