/- The contract of slices.Clone. -/
import Derived.Test.YtdaggankfokloaaDoorMem
import Derived.Maps.AppendAt
import Derived.OwnWalk
import Derived.Laws.Cover3
namespace Go.Proofs.YtdaggankfokloaaDoor
set_option linter.all false
open Go Go.RowKit

@[go_sem] theorem eqlSliceNil (a : Option Addr) (l c : Nat) (w : World) : (binOp BinOp.eql 22 (.slice a l c) (.slice none 0 0)).run Tryd.prog w = .ok (.bool a.isNone) w := by
  simp [binOp, Sem.run_bind, run_equal_slice_nil w 22 5 a l c Tryd.underlying22]

set_option maxRecDepth 100000 in
set_option maxHeartbeats 4000000 in
theorem clone_some (ad : Addr) (n c : Nat) (f : Nat → Nat) (hn : n ≤ 1000000) (w : World) (hS : Hid (∀ w', Below w.heap.size w w' → ∀ j v, (fl f n)[j]? = some v → w'.cell? (ad.add j) = some v)) :
    Calls Tryd.prog 23 #[.slice (some ad) n c] w fun e w' => (∃ r, e = .returned r ∧ w'.ownsRow w.heap.size 5 1 r n (fl f n)) ∧ Below w.heap.size w w' := by
  obtain ⟨i0, hi, hz0, hz1, hz2⟩ := info_parts infoByte
  have Hi := Lib.hid hi
  have Hz0 := Lib.hid hz0
  have Hz1 := Lib.hid hz1
  have Hz2 := Lib.hid hz2
  have Hn := Lib.hid hn
  clear hi hz0 hz1 hz2 hn
  have hown : (w.alloc (.cells #[] 5)).ownsRow w.heap.size 5 1 (.slice (some ⟨w.heap.size, 0, none⟩) 0 0) 0 [] := World.ownsRow_made w #[] 0 (Nat.le_refl _) (by unfold maxLen; omega) rfl
  have Hown := Lib.hid hown
  clear hown
  go_enter Tryd.func23, Tryd.ntmps23
  go_wp2_with (at_builtin; refine wpList_append_own _ rfl (.tmp 5) (.tmp 6) 22 rfl w.heap.size 5 i0 (.int .u8 0) 1 1 Tryd.underlying22 Hi.out Hz0.out Hz1.out Hz2.out rfl (by decide) _ _ _ rfl Hown.out ad n c (fl f n) rfl (by rw [fl_len]; omega) (hS.out _ ((Below.refl _ _).alloc (Nat.le_refl _) _)) (fl_one f n) (by have := Hn.out; unfold maxLen; omega) (by have := Hn.out; omega) (by simp only [World.size_alloc]; omega) ?_; intro r' w1' hown' hgrow' _)
  simp only [Nat.zero_add, List.nil_append] at hown'
  have R1 := Lib.hid hown'
  have R2 := Lib.hid (show Below w.heap.size w w1' from ((Below.refl _ _).alloc (Nat.le_refl _) _).grown hgrow' (by simp only [World.size_alloc]; omega) (fun k hk => (Hown.out.lt k hk).1))
  clear hown' hgrow'
  go_wp2_with fail
  exact bodyPost_ret (v := r') (by simp only [results, Tryd.results23]; go_simp) rfl ⟨⟨r', rfl, R1.out⟩, R2.out⟩

set_option maxRecDepth 100000 in
theorem clone_nil (w : World) :
    Calls Tryd.prog 23 #[.slice none 0 0] w fun e w' => (∃ r, e = .returned r ∧ w'.ownsRow w.heap.size 5 1 r 0 []) ∧ Below w.heap.size w w' := by
  go_enter Tryd.func23, Tryd.ntmps23
  go_wp2_with fail
  exact bodyPost_ret (v := .slice none 0 0) (by simp only [results, Tryd.results23]; go_simp) rfl ⟨⟨_, rfl, World.ownsRow_nil _ _ _ _⟩, Below.refl _ _⟩

/-- Clone of n bytes: a slice of its own. -/
theorem clone_c (w : World) (a : Option Addr) (n c : Nat) (f : Nat → Nat) (hn : n ≤ 1000000) (h : SliceAt w a n c f) :
    Calls Tryd.prog 23 #[.slice a n c] w fun e w' => (∃ r, e = .returned r ∧ w'.ownsRow w.heap.size 5 1 r n (fl f n)) ∧ Below w.heap.size w w' := by
  rcases h.at_ with ⟨rfl, rfl, rfl⟩ | ⟨ad, rfl, k⟩
  · exact clone_nil w
  · refine clone_some ad n c f hn w (Lib.hid fun w' hb j v hv => ?_)
    have hj : j < n := by have := (List.getElem?_eq_some_iff.1 hv).1; rwa [fl_len] at this
    obtain ⟨b, off, rfl, hB⟩ := k (by omega)
    exact (hB.below hb).src j v hv
end Go.Proofs.YtdaggankfokloaaDoor
