/- The contracts of Len and of the function Sum. -/
import Derived.Test.YtdaggankfokloaaDoorSumM
namespace Go.Proofs.YtdaggankfokloaaDoor
set_option linter.all false
open Go Go.RowKit

set_option maxRecDepth 100000 in
theorem len_c (p n : Nat) (w : World) (h : w.cell? ⟨p, 9, none⟩ = some (.int .i64 (n : Int))) :
    Calls Tryd.prog 17 #[.pointer (some ⟨p, 0, none⟩)] w fun e w' => e = .returned (.int .i64 (n : Int)) ∧ w = w' := by
  go_enter Tryd.func17, Tryd.ntmps17
  go_wp2_with fail
  exact bodyPost_ret (v := .int .i64 (n : Int)) (by simp only [results, Tryd.results17]; go_simp) rfl ⟨rfl, rfl⟩

set_option maxRecDepth 100000 in
set_option maxHeartbeats 8000000 in
theorem shaSum_c (n c : Nat) (a : Option Addr) (g : Nat → Nat) (hn : n ≤ 100000) (w : World) (hL : Laid w) (hS : SliceAt w a n c g) (hlow : ∀ ad, a = some ad → 0 < n → ad.block < w.heap.size) :
    Calls Tryd.prog 11 #[.slice a n c] w fun e w' => e = .returned (.agg (fl (sb (sumS K s0 g n)) 32).toArray) ∧ Below w.heap.size w w' := by
  have HL := Lib.hid hL
  have HS := Lib.hid hS
  have Hlow := Lib.hid hlow
  have Hn := Lib.hid hn
  have hg1 : 1 < w.heap.size := lt_of_cell (hL.k 0 (by decide))
  have hg2 : 0 < w.heap.size := lt_of_cell (hL.s 0 (by decide))
  clear hL hS hlow hn
  go_enter Tryd.func11, Tryd.ntmps11
  go_wp2_with fail
  refine Calls.mono (new_c g HS.out.lt _ (HL.out.step (by repeat first | with_reducible exact Below.refl _ _ | with_reducible refine Below.drew ?_ | with_reducible refine below_dN ?_ | with_reducible refine Below.alloc ?_ (by first | omega | (simp; done) | (simp; omega)) _ | with_reducible refine Below.setCell ?_ (by first | omega | (simp; done) | (simp; omega)) _ | with_reducible refine Below.trans ?_ (Below.mono (by assumption) (by first | omega | (simp; done) | (simp; omega)))))) ?_
  rintro _ w1 ⟨⟨p, rfl, hp⟩, h1⟩
  obtain ⟨c1, f1, s1⟩ := bfacts h1
  try simp only [World.size_alloc, World.size_setCell, size_drew, size_drewN] at s1
  have hpo : w.heap.size + 1 ≤ p := by have := hp.own; simpa only [World.size_alloc] using this
  have lw : w.heap.size < w1.heap.size := by omega
  have hout := (h1.block w.heap.size (by simp only [World.size_alloc]; omega)).trans (heap_alloc_new w _)
  have HB1 := Lib.hid (show Below w.heap.size w w1 from (by repeat first | with_reducible exact Below.refl _ _ | with_reducible refine Below.drew ?_ | with_reducible refine below_dN ?_ | with_reducible refine Below.alloc ?_ (by first | omega | (simp; done) | (simp; omega)) _ | with_reducible refine Below.setCell ?_ (by first | omega | (simp; done) | (simp; omega)) _ | with_reducible refine Below.trans ?_ (Below.mono (by assumption) (by first | omega | (simp; done) | (simp; omega)))))
  have hwr := write_c (w.heap.size + 1) p 0 n c a g g (by have := Hn.out; omega) w1 (HL.out.step HB1.out) (by simpa only [World.size_alloc] using hp) (HS.out.below HB1.out) (fun h0 ad e => by have := Hlow.out ad e h0; omega) (by omega) (by omega)
  go_wp2_with fail
  refine Calls.mono hwr ?_
  rintro _ w2 ⟨rfl, hh, _, hW⟩
  obtain ⟨r1, hr1, ho1, hne1⟩ := hp.rest
  have hb2 : Below (w.heap.size + 1) w1 w2 := (hW _ hr1).below hpo (by omega) (fun k hk => by have := (ho1.lt k hk).1; simpa only [World.size_alloc] using this)
  have HB2 := Lib.hid (HB1.out.trans (Below.mono hb2 (Nat.le_succ _)))
  have Hout2 := Lib.hid ((hb2.block _ (Nat.lt_succ_self _)).trans hout)
  have hh' : HashAt w2 (w.heap.size + 1) p g n := by
    have := hh.congr (g := g) HS.out.lt (fun j hj => by unfold cat; rw [if_neg (by omega)]; congr 1)
    rwa [Nat.zero_add] at this
  have Hh := Lib.hid hh'
  have lw2 : w.heap.size < w2.heap.size := by have := hb2.size; omega
  clear hwr hh hW hr1 ho1 hne1 hb2 hp hout hh' h1 c1 f1
  go_wp2_with fail
  refine Calls.mono (sum_walk (w.heap.size + 1) p n g Hn.out _ (Lib.hid (HL.out.step HB2.out)) Hh) ?_
  rintro _ w3 ⟨rfl, h3⟩
  obtain ⟨c3, f3, s3⟩ := bfacts h3
  try simp only [World.size_alloc, World.size_setCell, size_drew, size_drewN] at s3
  have Hrow : Hid (RowB w3 w.heap.size 32 (fun _ => 0) 25) := (h3.block _ lw2).trans Hout2.out
  have HB3 := Lib.hid (HB2.out.trans (Below.mono h3 (Nat.le_of_lt lw2)))
  clear h3 c3 f3
  obtain ⟨F, eF⟩ : ∃ F, F = sb (sumS K s0 g n) := ⟨_, rfl⟩
  rw [← eF]
  have EF := Lib.hid eF
  clear eF
  go_wp2_with ((with_reducible show wpList _ _ _ (⟨none, _, _, _, _, _⟩ :: []) _ _); refine wpList_store_mid rfl 25 (.tmp 2) (.tmp 9) rfl w.heap.size 0 (fl F 32).toArray rfl rfl Hrow.out.there (info_fl (by kernel_rfl)) (fl_oneA F 32) ?_; simp only [Act.put, List.setIfInBounds_toArray, List.set_cons_zero, List.set_cons_succ, List.tail_cons])
  exact bodyPost_ret (v := .agg (fl (sb (sumS K s0 g n)) 32).toArray) (by rw [← EF.out]; exact results_bytes (g := F) (b := w.heap.size) rfl rfl Hrow.out.stored Tryd.underlying25 (by kernel_rfl)) rfl ⟨rfl, below_setCells (Nat.le_refl _) _ _ _ _ HB3.out⟩
end Go.Proofs.YtdaggankfokloaaDoor
