/- The contracts of the reference's Mod, Form, Modulus and Mask. -/
import Derived.Test.YtpggmebgndkpjaaDoorRefRadix
namespace Go.Proofs.YtpggmebgndkpjaaDoor
set_option linter.all false
open Go.RowKit

set_option maxRecDepth 100000 in
set_option maxHeartbeats 2000000 in
theorem refMod_c (p b : Nat) (hp : p < R4) (hp1 : 1 < p) (hb : b < R4) (w : World) :
    Calls Tryd.prog 58 #[vec p, vec b] w fun e w' => e = .returned (vec (mulm p 1 b)) ∧ Below w.heap.size w w' := by
  go_enter Tryd.func58, Tryd.ntmps58
  go_wp2_with fail
  refine region_mix 4 [false, false, false, false] (fun w' => Below (w.heap.size + 1 + 1 + 1) _ w') (by kernel_rfl) (by kernel_rfl) (by intro _ _ d _ _ h; cases d <;> exact h) below_drew ?_
  simp only [List.take_succ_cons, List.take_zero, List.drop_succ_cons, List.drop_zero]
  with_reducible refine mix_v ?_ ?_ ?_
  · rfl
  · rfl
  apply Exists.intro
  refine ⟨fun w' hC => ?_, ?_⟩
  · have hcell := below_cells hC
    clear hC
    go_simp
    rfl
  try simp only [Act.put, List.setIfInBounds_toArray, List.set_cons_zero, List.set_cons_succ, List.tail_cons]
  with_reducible refine mix_c ?_ ?_ ?_
  · rfl
  · rfl
  apply Exists.intro
  apply Exists.intro
  apply Exists.intro
  refine ⟨fun w' hC => ?_, fun w' hC => ?_, ?_⟩
  · have hcell := below_cells hC
    clear hC
    go_simp
    exact ⟨rfl, rfl⟩
  · exact below_of hC (by simp) (refOne_c _)
  try simp only [Act.put, List.setIfInBounds_toArray, List.set_cons_zero, List.set_cons_succ, List.tail_cons]
  with_reducible refine mix_v ?_ ?_ ?_
  · rfl
  · rfl
  apply Exists.intro
  refine ⟨fun w' hC => ?_, ?_⟩
  · have hcell := below_cells hC
    clear hC
    go_simp
    rfl
  try simp only [Act.put, List.setIfInBounds_toArray, List.set_cons_zero, List.set_cons_succ, List.tail_cons]
  with_reducible refine mix_c ?_ ?_ ?_
  · rfl
  · rfl
  apply Exists.intro
  apply Exists.intro
  apply Exists.intro
  refine ⟨fun w' hC => ?_, fun w' hC => ?_, ?_⟩
  · have hcell := below_cells hC
    clear hC
    go_simp
    exact ⟨rfl, rfl⟩
  · exact below_of hC (by simp) (refMul_c p 1 b hp hp1 hb _)
  try simp only [Act.put, List.setIfInBounds_toArray, List.set_cons_zero, List.set_cons_succ, List.tail_cons]
  refine mix_nil ?_
  intro w2 h2
  obtain ⟨c2, f2, s2⟩ := bfactsB h2
  try simp only [World.size_alloc, World.size_setCell, size_drew, size_drewN] at s2
  go_wp2_with fail
  refine bodyPost_ret (v := vec (mulm p 1 b)) (by simp only [results, Tryd.results58]; go_simp) rfl ⟨rfl, ?_⟩
  repeat first
    | with_reducible exact Below.refl _ _
    | with_reducible refine Below.drew ?_
    | with_reducible refine below_dN ?_
    | with_reducible refine Below.alloc ?_ (by first | omega | (simp; done) | (simp; omega)) _
    | with_reducible refine Below.setCell ?_ (by first | omega | (simp; done) | (simp; omega)) _
    | with_reducible refine Below.trans ?_ (Below.mono (by assumption) (by first | omega | (simp; done) | (simp; omega)))

set_option maxRecDepth 100000 in
set_option maxHeartbeats 2000000 in
theorem refForm_c (p b : Nat) (hp : p < R4) (hp1 : 1 < p) (hb : b < R4) (w : World) :
    Calls Tryd.prog 63 #[vec p, vec b] w fun e w' => e = .returned (vec (mulm p (R4 % p) b)) ∧ Below w.heap.size w w' := by
  go_enter Tryd.func63, Tryd.ntmps63
  go_wp2_with fail
  refine region_mix 5 [false, false, false, false, false] (fun w' => Below (w.heap.size + 1 + 1 + 1) _ w') (by kernel_rfl) (by kernel_rfl) (by intro _ _ d _ _ h; cases d <;> exact h) below_drew ?_
  simp only [List.take_succ_cons, List.take_zero, List.drop_succ_cons, List.drop_zero]
  with_reducible refine mix_v ?_ ?_ ?_
  · rfl
  · rfl
  apply Exists.intro
  refine ⟨fun w' hC => ?_, ?_⟩
  · have hcell := below_cells hC
    clear hC
    go_simp
    rfl
  try simp only [Act.put, List.setIfInBounds_toArray, List.set_cons_zero, List.set_cons_succ, List.tail_cons]
  with_reducible refine mix_v ?_ ?_ ?_
  · rfl
  · rfl
  apply Exists.intro
  refine ⟨fun w' hC => ?_, ?_⟩
  · have hcell := below_cells hC
    clear hC
    go_simp
    rfl
  try simp only [Act.put, List.setIfInBounds_toArray, List.set_cons_zero, List.set_cons_succ, List.tail_cons]
  with_reducible refine mix_c ?_ ?_ ?_
  · rfl
  · rfl
  apply Exists.intro
  apply Exists.intro
  apply Exists.intro
  refine ⟨fun w' hC => ?_, fun w' hC => ?_, ?_⟩
  · have hcell := below_cells hC
    clear hC
    go_simp
    exact ⟨rfl, rfl⟩
  · exact below_of hC (by simp) (refRadix_c p hp hp1 _)
  try simp only [Act.put, List.setIfInBounds_toArray, List.set_cons_zero, List.set_cons_succ, List.tail_cons]
  with_reducible refine mix_v ?_ ?_ ?_
  · rfl
  · rfl
  apply Exists.intro
  refine ⟨fun w' hC => ?_, ?_⟩
  · have hcell := below_cells hC
    clear hC
    go_simp
    rfl
  try simp only [Act.put, List.setIfInBounds_toArray, List.set_cons_zero, List.set_cons_succ, List.tail_cons]
  with_reducible refine mix_c ?_ ?_ ?_
  · rfl
  · rfl
  apply Exists.intro
  apply Exists.intro
  apply Exists.intro
  refine ⟨fun w' hC => ?_, fun w' hC => ?_, ?_⟩
  · have hcell := below_cells hC
    clear hC
    go_simp
    exact ⟨rfl, rfl⟩
  · exact below_of hC (by simp) (refMul_c p (R4 % p) b hp (Nat.mod_lt _ (by omega)) hb _)
  try simp only [Act.put, List.setIfInBounds_toArray, List.set_cons_zero, List.set_cons_succ, List.tail_cons]
  refine mix_nil ?_
  intro w2 h2
  obtain ⟨c2, f2, s2⟩ := bfactsB h2
  try simp only [World.size_alloc, World.size_setCell, size_drew, size_drewN] at s2
  go_wp2_with fail
  refine bodyPost_ret (v := vec (mulm p (R4 % p) b)) (by simp only [results, Tryd.results63]; go_simp) rfl ⟨rfl, ?_⟩
  repeat first
    | with_reducible exact Below.refl _ _
    | with_reducible refine Below.drew ?_
    | with_reducible refine below_dN ?_
    | with_reducible refine Below.alloc ?_ (by first | omega | (simp; done) | (simp; omega)) _
    | with_reducible refine Below.setCell ?_ (by first | omega | (simp; done) | (simp; omega)) _
    | with_reducible refine Below.trans ?_ (Below.mono (by assumption) (by first | omega | (simp; done) | (simp; omega)))
end Go.Proofs.YtpggmebgndkpjaaDoor
