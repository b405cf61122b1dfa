/- The contracts of law 5's ID and form. -/
import Derived.Test.YtpggmebgndkpjaaDoorRefForm
namespace Go.Proofs.YtpggmebgndkpjaaDoor
set_option linter.all false
open Go.RowKit

set_option maxRecDepth 100000 in
theorem lawID_c (s : Bool) (w : World) :
    Calls Tryd.prog 56 #[.bool s] w fun e w' => e = .returned (.int .i64 (fid s)) ∧ w = w' := by
  cases s
  · skip
    go_enter Tryd.func56, Tryd.ntmps56
    go_wp2_with fail
    exact bodyPost_ret (v := .int .i64 1) (by simp only [results, Tryd.results56]; go_simp) rfl ⟨rfl, rfl⟩
  · skip
    go_enter Tryd.func56, Tryd.ntmps56
    go_wp2_with fail
    exact bodyPost_ret (v := .int .i64 2) (by simp only [results, Tryd.results56]; go_simp) rfl ⟨rfl, rfl⟩

end Go.Proofs.YtpggmebgndkpjaaDoor
