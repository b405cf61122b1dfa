/- The contract of the reference's constants: the lists of the round constants and of the start. -/
import Derived.Test.YtdaggankfokloaaDoorRefRoots
import Derived.Test.YtdaggankfokloaaDoorWrite
namespace Go.Proofs.YtdaggankfokloaaDoor
set_option linter.all false
open Go Go.RowKit

def vl (l : List Nat) : List Value := l.map fun x => Value.int .u32 ((x : Nat) : Int)
theorem vl_len (l : List Nat) : (vl l).length = l.length := by simp [vl]
theorem vl_one (l : List Nat) : ∀ v ∈ vl l, v.oneCell' = true := fun v hv => by
  simp only [vl, List.mem_map] at hv
  obtain ⟨j, _, rfl⟩ := hv
  rfl
theorem vl_ws (l : List Nat) : vl l = ws (fun j => l.getD j 0) l.length := by
  apply List.ext_getElem?
  intro j
  by_cases h : j < l.length
  · rw [ws_get _ _ j h]; simp [vl, h, List.getD]
  · rw [List.getElem?_eq_none (by rw [vl_len]; omega), List.getElem?_eq_none (by rw [ws_len]; omega)]
/-- What the loop of constants finds from k on, with t numbers to go. -/
def cl (R : Nat → Nat) (n : Nat) : Nat → Nat → List Nat → List Nat
  | 0, _, l => l
  | t + 1, k, l => if l.length < n then cl R n t (k + 1) (if primeF k then l ++ [R k] else l) else l
theorem infoWord : (Tryd.prog.info? 42).map (fun i => (i.zero, i.size, i.bytes)) = some (some (.int .u32 0), 1, 4) := by kernel_rfl

set_option maxRecDepth 100000 in
set_option maxHeartbeats 4000000 in
theorem constants_walk (kind : Bool) (R : Nat → Nat) (n M : Nat) (L : List Nat) (hM : M < 1024) (hn : n ≤ 64) (hL : cl R n (M - 2) 2 [] = L) (hlen : L.length = n) (h2 : 2 ≤ M) (w : World)
    (hroot : ∀ (k : Nat) (w : World), k < 1024 → Calls Tryd.prog 25 #[.int .u64 (k : Int), .bool kind] w fun e w' => e = .returned (.int .u32 ((R k : Nat) : Int)) ∧ w = w') :
    Calls Tryd.prog 20 #[.int .i64 (n : Int), .bool kind] w fun e w' => (∃ r, e = .returned r ∧ w'.ownsRow w.heap.size 42 1 r n (vl L)) ∧ Below w.heap.size w w' := by
  obtain ⟨i0, hi, hz0, hz1, hz2⟩ := info_parts infoWord
  have Hi := Lib.hid hi
  have Hz0 := Lib.hid hz0
  have Hz1 := Lib.hid hz1
  have Hz2 := Lib.hid hz2
  have Hroot := Lib.hid hroot
  have HM := Lib.hid hM
  have Hn := Lib.hid hn
  have HL := Lib.hid hL
  have H2 := Lib.hid h2
  have Hlen := Lib.hid hlen
  clear hroot hM hn hL hlen h2 hi hz0 hz1 hz2
  go_enter Tryd.func20, Tryd.ntmps20
  go_wp2_with fail
  go_loopw [5, 6] (fun s k wr => ∃ (a : Option Addr) (c y t : Nat) (l : List Nat), s = .slice a l.length c ∧ k = .int .u64 (y : Int) ∧ Hid (y + t = M ∧ cl R n t y l = L ∧ wr.ownsRow w.heap.size 42 1 (.slice a l.length c) l.length (vl l) ∧ Below w.heap.size w wr)) (fun _ k _ => M - (intOf k).toNat)
  case atStart => exact ⟨none, 0, 2, M - 2, [], rfl, rfl, by have := H2.out; omega, HL.out, World.ownsRow_nil _ _ _ _, Below.refl _ _⟩
  case round =>
    obtain ⟨a, c, y, t, l, rfl, rfl, H⟩ := hrel
    obtain ⟨m, hm⟩ : ∃ m, m = l.length := ⟨_, rfl⟩
    have H' : Hid (y + t = M ∧ cl R n t y l = L ∧ wr.ownsRow w.heap.size 42 1 (.slice a m c) m (vl l) ∧ Below w.heap.size w wr) := by rw [hm]; exact H
    rw [← hm]
    have Hm := Lib.hid hm
    clear hm H
    have hyb : Hid (y ≤ M) := by have := H'.out.1; show _ ≤ _; omega
    by_cases hlt : m < n
    · have ht : t ≠ 0 := by
        rintro rfl
        have h1 := H'.out.2.1
        have h2 := Hm.out
        have h3 := Hlen.out
        rw [show cl R n 0 y l = l from rfl] at h1
        rw [h1] at h2
        omega
      obtain ⟨t, rfl⟩ := Nat.exists_eq_succ_of_ne_zero ht
      have hk : Hid (y < M) := by have := H'.out.1; show _ < _; omega
      have hcl : Hid (cl R n t (y + 1) (if primeF y then l ++ [R y] else l) = L) := by
        have h1 := H'.out.2.1
        have h2 := Hm.out
        rw [show cl R n (t + 1) y l = if l.length < n then cl R n t (y + 1) (if primeF y then l ++ [R y] else l) else l from rfl, if_pos (by omega)] at h1
        exact h1
      have hlt2 : (m : Int) < (n : Int) := by omega
      have e1 : IntKind.u64.wrap ((y : Int) + 1) = ((y + 1 : Nat) : Int) := by have := hk.out; have := HM.out; rw [IntKind.wrap_u64]; omega
      have Hlt := Lib.hid hlt
      clear ht hlt
      go_wp2_with fail
      refine Calls.mono (prime_c y (by have := hk.out; have := HM.out; omega) _) ?_
      rintro _ _ ⟨rfl, rfl⟩
      by_cases hp : primeF y = true
      · rw [hp]
        rw [hp] at hcl
        clear hp
        go_wp2_with (at_builtin; fail)
        refine Calls.mono (Hroot.out y _ (by have := hk.out; have := HM.out; omega)) ?_
        rintro _ _ ⟨rfl, rfl⟩
        go_wp2_with (at_builtin; refine wpList_append_own _ rfl (.tmp 15) (.tmp 19) 39 rfl w.heap.size 42 i0 (.int .u32 0) 1 4 Tryd.underlying39 Hi.out Hz0.out Hz1.out Hz2.out rfl (by decide) (.slice a m c) m (vl l) rfl (H'.out.2.2.1.alloc _) ⟨wr.heap.size, 0, none⟩ 1 1 (vl [R y]) rfl rfl (fun j u hj => ?_) (vl_one _) (by have := Hn.out; have := Hlt.out; unfold maxLen; omega) (by have := Hn.out; have := Hlt.out; omega) (by have := H'.out.2.2.2.size; simp only [World.size_alloc]; omega) ?_; rotate_left; intro v' w1 hown' hgrow' hnil)
        rotate_left
        · cases j with
          | zero => cases hj; exact (cell_of_row _ wr.heap.size 0 _ _ _ (heap_alloc_new wr _)).trans rfl
          | succ j => cases hj
        skip
        obtain ⟨a', c', rfl⟩ := row_slice2 hown'
        have hown2 : w1.ownsRow w.heap.size 42 1 (.slice a' (m + 1) c') (m + 1) (vl (l ++ [R y])) := by rw [show vl (l ++ [R y]) = vl l ++ vl [R y] by simp [vl]]; exact hown'
        have Hown2 := Lib.hid hown2
        have HB := Lib.hid (show Below w.heap.size w w1 from (H'.out.2.2.2.alloc H'.out.2.2.2.size _).grown hgrow' (by have := H'.out.2.2.2.size; simp only [World.size_alloc]; omega) (fun k hk => (H'.out.2.2.1.lt k hk).1))
        have el : (l ++ [R y]).length = m + 1 := by rw [List.length_append, Hm.out]; rfl
        have El := Lib.hid el
        clear hown' hgrow' hnil hown2 el
        go_wp2_with fail
        go_roundw
        case rel =>
          refine ⟨a', c', y + 1, t, l ++ [R y], by rw [El.out], rfl, by have := H'.out.1; omega, ?_, by rw [El.out]; exact Hown2.out, HB.out⟩
          have := hcl.out
          simpa using this
        case measure => have := hk.out; simp [intOf]; omega
      · rw [Bool.eq_false_iff.2 hp]
        rw [Bool.eq_false_iff.2 hp] at hcl
        clear hp
        go_wp2_with fail
        go_roundw
        case rel =>
          refine ⟨a, c, y + 1, t, l, by rw [Hm.out], rfl, by have := H'.out.1; omega, ?_, by rw [← Hm.out]; exact H'.out.2.2.1, H'.out.2.2.2⟩
          have := hcl.out
          simpa using this
        case measure => have := hk.out; simp [intOf]; omega
    · have e : Hid (l = L) := by
        have h1 := H'.out.2.1
        show _ = _
        cases t with
        | zero => exact h1
        | succ t => 
          rw [show cl R n (t + 1) y l = if l.length < n then cl R n t (y + 1) (if primeF y then l ++ [R y] else l) else l from rfl, if_neg (by have := Hm.out; omega)] at h1
          exact h1
      have emn : m = n := by rw [Hm.out, e.out, Hlen.out]
      have hown : wr.ownsRow w.heap.size 42 1 (.slice a m c) n (vl L) := by have := H'.out.2.2.1; rw [e.out] at this; rw [← emn]; exact this
      have Hown := Lib.hid hown
      have hlt2 : ¬ (m : Int) < (n : Int) := by omega
      clear hown emn hlt
      go_wp2_with fail
      exact bodyPost_ret (v := .slice a m c) (by simp only [results, Tryd.results20]; go_simp) rfl ⟨⟨_, rfl, Hown.out⟩, H'.out.2.2.2⟩

set_option maxRecDepth 100000 in
theorem k_list : cl (fun n => rootF fun y => cubeF y n) 64 310 2 [] = Kl := by kernel_rfl
def s0l : List Nat := [1779033703, 3144134277, 1013904242, 2773480762, 1359893119, 2600822924, 528734635, 1541459225]
set_option maxRecDepth 100000 in
theorem s_list : cl (fun n => rootF fun y => squareF y n) 8 18 2 [] = s0l := by kernel_rfl
theorem refK_c (w : World) : Calls Tryd.prog 20 #[.int .i64 64, .bool true] w fun e w' => (∃ r, e = .returned r ∧ w'.ownsRow w.heap.size 42 1 r 64 (ws K 64)) ∧ Below w.heap.size w w' :=
  (constants_walk true _ 64 312 Kl (by decide) (by decide) k_list rfl (by decide) w (fun k w hk => root_cube k hk w)).mono fun e w' h => by rw [show ws K 64 = vl Kl from (vl_ws Kl).symm]; exact h
theorem refS_c (w : World) : Calls Tryd.prog 20 #[.int .i64 8, .bool false] w fun e w' => (∃ r, e = .returned r ∧ w'.ownsRow w.heap.size 42 1 r 8 (ws s0.at 8)) ∧ Below w.heap.size w w' :=
  (constants_walk false _ 8 20 s0l (by decide) (by decide) s_list rfl (by decide) w (fun k w hk => root_square k hk w)).mono fun e w' h => by rw [show ws s0.at 8 = vl s0l from rfl]; exact h
end Go.Proofs.YtdaggankfokloaaDoor
