/- The contracts of law 5's ID and form. -/
import Derived.Test.YtpebojiijgkadaaDoorRefForm
namespace Go.Proofs.YtpebojiijgkadaaDoor
set_option linter.all false
open Go.RowKit

set_option maxRecDepth 100000 in
theorem lawID_c (s : Bool) (w : World) :
    Calls Tryd.prog 48 #[.bool s] w fun e w' => e = .returned (.int .i64 (fid s)) ∧ w = w' := by
  cases s
  · skip
    go_enter Tryd.func48, Tryd.ntmps48
    go_wp2_with fail
    exact bodyPost_ret (v := .int .i64 1) (by simp only [results, Tryd.results48]; go_simp) rfl ⟨rfl, rfl⟩
  · skip
    go_enter Tryd.func48, Tryd.ntmps48
    go_wp2_with fail
    exact bodyPost_ret (v := .int .i64 2) (by simp only [results, Tryd.results48]; go_simp) rfl ⟨rfl, rfl⟩

set_option maxRecDepth 100000 in
set_option maxHeartbeats 2000000 in
theorem lawform_c (p b : Nat) (hp : p < R4) (hp1 : 1 < p) (hb : b < R4) (w : World) :
    Calls Tryd.prog 16 #[vec p, vec b] w fun e w' => e = .returned (vec (mulm p (R4 % p) b)) ∧ Below w.heap.size w w' := by
  go_enter Tryd.func16, Tryd.ntmps16
  go_wp2_with fail
  refine Calls.mono (refForm_c p b hp hp1 hb _) ?_
  rintro _ w1 ⟨rfl, h1⟩
  obtain ⟨c1, f1, s1⟩ := bfacts h1
  try simp only [World.size_alloc, World.size_setCell, size_drew, size_drewN] at s1
  have l_w_w1_0 : w.heap.size < w1.heap.size := by omega
  have l_w_w1_1 : w.heap.size + 1 < w1.heap.size := by omega
  have l_w_w1_2 : w.heap.size + 1 + 1 < w1.heap.size := by omega
  go_wp2_with fail
  refine bodyPost_ret (v := vec (mulm p (R4 % p) b)) (by simp only [results, Tryd.results16]; go_simp) rfl ⟨rfl, ?_⟩
  repeat first
    | with_reducible exact Below.refl _ _
    | with_reducible refine Below.drew ?_
    | with_reducible refine below_dN ?_
    | with_reducible refine Below.alloc ?_ (by first | omega | (simp; done) | (simp; omega)) _
    | with_reducible refine Below.setCell ?_ (by first | omega | (simp; done) | (simp; omega)) _
    | with_reducible refine Below.trans ?_ (Below.mono (by assumption) (by first | omega | (simp; done) | (simp; omega)))
end Go.Proofs.YtpebojiijgkadaaDoor
