/- The contract of mont.IsZero. -/
import Derived.Test.YtpebojiijgkadaaDoorIsZero
namespace Go.Proofs.YtpebojiijgkadaaDoor
set_option linter.all false
open Go.RowKit

set_option maxRecDepth 100000 in
set_option maxHeartbeats 2000000 in
theorem montIsZero_c (a : Nat) (ha : a < R4) (w : World) :
    Calls Tryd.prog 31 #[vec a] w fun e w' => e = .returned (.int .u64 ((mb (isz a) : Nat) : Int)) ∧ Below w.heap.size w w' := by
  go_enter Tryd.func31, Tryd.ntmps31
  go_wp2_with fail
  refine Calls.mono (limbIsZero_c a ha _) ?_
  rintro _ w1 ⟨rfl, h1⟩
  obtain ⟨c1, f1, s1⟩ := bfacts h1
  try simp only [World.size_alloc, World.size_setCell, size_drew, size_drewN] at s1
  have l_w_w1_0 : w.heap.size < w1.heap.size := by omega
  go_wp2_with fail
  refine bodyPost_ret (v := .int .u64 ((mb (isz a) : Nat) : Int)) (by simp only [results, Tryd.results31]; go_simp) rfl ⟨rfl, ?_⟩
  repeat first
    | with_reducible exact Below.refl _ _
    | with_reducible refine Below.drew ?_
    | with_reducible refine below_dN ?_
    | with_reducible refine Below.alloc ?_ (by first | omega | (simp; done) | (simp; omega)) _
    | with_reducible refine Below.setCell ?_ (by first | omega | (simp; done) | (simp; omega)) _
    | with_reducible refine Below.trans ?_ (Below.mono (by assumption) (by first | omega | (simp; done) | (simp; omega)))
end Go.Proofs.YtpebojiijgkadaaDoor
