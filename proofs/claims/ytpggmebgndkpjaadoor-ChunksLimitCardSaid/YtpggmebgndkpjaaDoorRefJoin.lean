/- The contract of the reference's Join. -/
import Derived.Test.YtpggmebgndkpjaaDoorRefChunks
namespace Go.Proofs.YtpggmebgndkpjaaDoor
set_option linter.all false
open Go Go.RowKit Go.Shelf

theorem refUnpack_ok (v m : Nat) (hm : m ≤ 31) (hz : Zf v m) (w : World) :
    Calls Tryd.prog 64 #[vec v, .int .i64 (m : Int)] w fun e w' => (∃ r, e = .returned r ∧ ∃ g d, r = .tuple #[.slice (some ⟨g, 0, none⟩) m d, .int .i64 0] ∧ w.heap.size ≤ g ∧ BytesAt w' g 0 m (byt v)) ∧ Below w.heap.size w w' := by
  refine (refUnpack_walk v m hm w).mono ?_
  rintro e w' ⟨h | h, hb⟩
  · obtain ⟨_, g, c, rfl, hg, hB⟩ := h
    exact ⟨⟨_, rfl, g, c, rfl, hg, hB⟩, hb⟩
  · exact absurd hz h.1
theorem refUnpack_bad (v m : Nat) (hm : m ≤ 31) (hz : ¬ Zf v m) (w : World) :
    Calls Tryd.prog 64 #[vec v, .int .i64 (m : Int)] w fun e w' => e = .returned (.tuple #[.slice none 0 0, .int .i64 10]) ∧ Below w.heap.size w w' := by
  refine (refUnpack_walk v m hm w).mono ?_
  rintro e w' ⟨h | h, hb⟩
  · exact absurd h.1 hz
  · exact ⟨h.2, hb⟩

set_option maxRecDepth 100000 in
set_option maxHeartbeats 8000000 in
theorem refJoin_walk (a : Option Addr) (N c : Nat) (v : Nat → Nat) (hN : N ≤ 65535) (w : World) (HV : Hid (VecsAt w a (cn N) v)) :
    Calls Tryd.prog 37 #[.slice a (cn N) c, .int .i64 (N : Int)] w fun e w' => (∃ r, e = .returned r ∧ JO w.heap.size N v r w') ∧ Below w.heap.size w w' := by
  have hN2 : (N : Int) ≤ 65535 := by omega
  have hcn : cn (N : Int) ≤ 2115 := by unfold cn; split <;> omega
  obtain ⟨i0, hi, hz0, hz1, hz2⟩ := info_parts infoByte
  have Hi := Lib.hid hi
  have Hz0 := Lib.hid hz0
  have Hz1 := Lib.hid hz1
  have Hz2 := Lib.hid hz2
  clear hi hz0 hz1 hz2
  go_enter Tryd.func37, Tryd.ntmps37
  go_wp2_with fail
  refine Calls.mono (refCount_c _ (by omega) _) ?_
  rintro _ _ ⟨rfl, rfl⟩
  go_wp2_with fail
  go_loopw [6, 7] (fun r i wr => ∃ k q : Nat, k ≤ cn N ∧ i = .int .i64 (k : Int) ∧ q ≤ 31 * k ∧ wr.ownsRow w.heap.size 5 1 r q (byC N v (List.range k)) ∧ okC N v (List.range k) ∧ Below w.heap.size w wr) (fun _ i _ => cn N - (intOf i).toNat)
  case atStart => exact ⟨0, 0, Nat.zero_le _, rfl, Nat.zero_le _, World.ownsRow_nil _ _ _ _, (fun _ h => by cases h), Below.refl _ _⟩
  case round =>
    obtain ⟨k, q, hk, rfl, hq, hown, hok, hbel⟩ := hrel
    have Hown := Lib.hid hown
    have Hbel := Lib.hid hbel
    have Hok := Lib.hid hok
    clear hown hok
    by_cases hlt : k < cn N
    · have h31 := cn_lo hN hlt
      obtain ⟨b, off, rfl, hbb, hcc⟩ := HV.out.at_.resolve_left (by omega)
      obtain ⟨m, em⟩ : ∃ m, m = cz N k := ⟨_, rfl⟩
      obtain ⟨y, ey⟩ : ∃ y, y = v k := ⟨_, rfl⟩
      have hm31 : m ≤ 31 := by rw [em]; unfold cz; omega
      have hkn : (k : Int) < ((cn (N : Int) : Nat) : Int) := by omega
      have hmin : min (31 : Int) ((N : Int) - 31 * (k : Int)) = (m : Int) := by rw [em]; unfold cz; omega
      have hk2 : (k : Int) ≤ 2115 := by omega
      have hl : ∀ j, j < 4 → wr.cell? ⟨b, off + k * 4 + j, none⟩ = some (.int .u64 ((dg j y : Nat) : Int)) := fun j hj => (hbel.cell (p := ⟨b, off + k * 4 + j, none⟩) hbb).trans (by rw [ey]; exact hcc k hlt j hj)
      have x0 : wr.cell? ⟨b, off + k * 4, none⟩ = some (.int .u64 ((dg 0 y : Nat) : Int)) := hl 0 (by decide)
      have x1 := hl 1 (by decide)
      have x2 := hl 2 (by decide)
      have x3 := hl 3 (by decide)
      clear hl
      have HI := Lib.hid (And.intro em ey)
      clear hcc em ey hbel
      by_cases hz : Zf y m
      · have Hz := Lib.hid hz
        clear hz
        go_wp2_with fail
        refine Calls.mono (refUnpack_ok y m hm31 Hz.out _) ?_
        rintro _ w1 ⟨⟨_, rfl, g, d, rfl, hg, hB⟩, h1⟩
        obtain ⟨c1, f1, s1⟩ := bfacts h1
        try simp only [World.size_alloc, World.size_setCell, size_drew, size_drewN] at s1
        have HB := Lib.hid hB
        clear hB x0 x1 x2 x3
        go_wp2_with (at_builtin; refine wpList_append_own _ rfl (.tmp 43) (.tmp 44) 53 rfl w.heap.size 5 i0 (.int .u8 0) 1 1 Tryd.underlying53 Hi.out Hz0.out Hz1.out Hz2.out rfl (by decide) _ _ _ rfl (row_below Hown.out h1) ⟨g, 0, none⟩ m d (fl (byt y) m) rfl (by rw [fl_len, Nat.mul_one]) (bytes_src HB.out) (fl_one1 _ _) (by unfold maxLen; omega) (by omega) (by have := Hbel.out.size; omega) ?_; intro r' w2 hown' hgrow' _)
        have R1 := Lib.hid hown'
        have R2 := Lib.hid (Hbel.out.trans ((Below.mono h1 Hbel.out.size).grown hgrow' (by have := Hbel.out.size; omega) (fun j hj => (Hown.out.lt j hj).1)))
        clear hown' hgrow'
        go_wp2_with fail
        go_roundw
        case rel =>
          refine ⟨k + 1, q + m, by omega, by go_num, by omega, ?_, ?_, R2.out⟩
          · rw [List.range_succ, byC_snoc, ← HI.out.1, ← HI.out.2]
            exact R1.out
          · rw [List.range_succ]
            exact okC_snoc.2 ⟨Hok.out, by rw [← HI.out.1, ← HI.out.2]; exact Hz.out⟩
        case measure => simp [intOf]; omega
      · have Hz := Lib.hid hz
        clear hz
        go_wp2_with fail
        refine Calls.mono (refUnpack_bad y m hm31 Hz.out _) ?_
        rintro _ w1 ⟨rfl, h1⟩
        obtain ⟨c1, f1, s1⟩ := bfacts h1
        try simp only [World.size_alloc, World.size_setCell, size_drew, size_drewN] at s1
        go_wp2_with fail
        exact bodyPost_ret (v := .tuple #[.slice none 0 0, .int .i64 10]) (by simp only [results, Tryd.results37]; go_simp) rfl ⟨⟨_, rfl, .inr ⟨fun h => Hz.out (by rw [HI.out.1, HI.out.2]; exact h k (List.mem_range.2 hlt)), rfl⟩⟩, Hbel.out.trans (Below.mono h1 Hbel.out.size)⟩
    · obtain rfl : k = cn N := by omega
      obtain ⟨ao, co, rfl⟩ := row_slice2 Hown.out
      go_wp2_with fail
      exact bodyPost_ret (v := .tuple #[.slice ao q co, .int .i64 0]) (by simp only [results, Tryd.results37]; go_simp) rfl ⟨⟨_, rfl, .inl ⟨Hok.out, _, q, rfl, Hown.out⟩⟩, Hbel.out⟩
end Go.Proofs.YtpggmebgndkpjaaDoor
