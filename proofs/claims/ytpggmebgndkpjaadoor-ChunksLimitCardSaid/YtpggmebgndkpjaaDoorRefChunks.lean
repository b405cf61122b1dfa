/- The contract of the reference's Split. -/
import Derived.Test.YtpggmebgndkpjaaDoorChunkOut
namespace Go.Proofs.YtpggmebgndkpjaaDoor
set_option linter.all false
open Go Go.RowKit Go.Shelf

/-- x[l:h], a part of some bytes. -/
theorem cut2 {a : Option Addr} {n c o m h : Nat} {f : Nat → Nat} {w : World} (hS : SliceAt w a n f) (hc : n ≤ c) (he : h = o + m) (hh : h ≤ n) (hm : 0 < m) :
    ∃ a', (∀ w', (Instr.sliceAt 53 (.slice a n c) (some (.int .i64 (o : Int))) (some (.int .i64 (h : Int))) none).run Tryd.prog w' = .ok (.slice a' m (c - o)) w') ∧ SliceAt w a' m (fun j => f (o + j)) := by
  obtain ⟨b, off, rfl, hB⟩ := hS.pos (by omega)
  refine ⟨some ⟨b, off + o, none⟩, fun w' => ?_, ?_⟩
  · rw [run_sliceAt_slice _ _ _ _ _ _ elemByte, run_slice_lh _ _ _ _ _ elemByte .i64 .i64 (o : Int) (h : Int) (by omega) (by omega) (by omega), sizeElem]
    simp only [Result.andThen_ok, sliced, Int.toNat_natCast]
    rw [if_neg (by omega)]
    have e : (⟨b, off, none⟩ : Addr).add (o * 1) = ⟨b, off + o, none⟩ := by rw [Nat.mul_one]; unfold Addr.add; split <;> simp_all
    rw [Option.map_some, e, show h - o = m by omega]
  · exact (hB.part o m (by omega)).slice
theorem refNumber_s (w : World) (a : Option Addr) (n c : Nat) (f : Nat → Nat) (hn : n ≤ 32) (hp : 0 < n) (h : SliceAt w a n f) :
    Calls Tryd.prog 65 #[.slice a n c] w fun e w' => e = .returned (vec (le f n)) ∧ Below w.heap.size w w' := by
  obtain ⟨b, off, rfl, hB⟩ := h.pos hp
  exact refNumber_at f b off n c hn w hB
theorem infoVec : (Tryd.prog.info? 44).map (fun i => (i.zero, i.size, i.bytes)) = some (some (.agg #[.int .u64 0, .int .u64 0, .int .u64 0, .int .u64 0]), 4, 32) := by kernel_rfl

set_option maxRecDepth 100000 in
set_option maxHeartbeats 8000000 in
theorem refSplit_ok (a : Option Addr) (n c : Nat) (f : Nat → Nat) (hn : n ≤ 65535) (hc : n ≤ c) (w : World) (HS : Hid (SliceAt w a n f)) :
    Calls Tryd.prog 40 #[.slice a n c] w fun e w' => (∃ v, e = .returned (.tuple #[v, .int .i64 0]) ∧ w'.ownsRow w.heap.size 44 4 v (cn n) (vcs ((List.range (cn n)).map (cv n f)))) ∧ Below w.heap.size w w' := by
  have hn2 : (n : Int) ≤ 65535 := by omega
  obtain ⟨i0, hi, hz0, hz1, hz2⟩ := info_parts infoVec
  have Hi := Lib.hid hi
  have Hz0 := Lib.hid hz0
  have Hz1 := Lib.hid hz1
  have Hz2 := Lib.hid hz2
  clear hi hz0 hz1 hz2
  go_enter Tryd.func40, Tryd.ntmps40
  go_wp2_with fail
  go_loopw [4, 5] (fun v i wr => ∃ k : Nat, k ≤ cn n ∧ i = .int .i64 ((31 * k : Nat) : Int) ∧ wr.ownsRow w.heap.size 44 4 v k (vcs ((List.range k).map (cv n f))) ∧ Below w.heap.size w wr) (fun _ i _ => 70000 - (intOf i).toNat)
  case atStart => exact ⟨0, Nat.zero_le _, rfl, World.ownsRow_nil _ _ _ _, Below.refl _ _⟩
  case round =>
    obtain ⟨k, hk, rfl, hown, hbel⟩ := hrel
    have hcn : cn (n : Int) ≤ 2115 := by unfold cn; split <;> omega
    have Hown := Lib.hid hown
    have Hbel := Lib.hid hbel
    clear hown
    by_cases hlt : k < cn n
    · have h31 := cn_lo hn hlt
      obtain ⟨o, eo⟩ : ∃ o, o = 31 * k := ⟨_, rfl⟩
      obtain ⟨m, em⟩ : ∃ m, m = cz n k := ⟨_, rfl⟩
      obtain ⟨h, eh⟩ : ∃ h, h = o + m := ⟨_, rfl⟩
      have hm31 : m ≤ 31 := by rw [em]; unfold cz; omega
      have hm0 : 0 < m := by rw [em]; unfold cz; omega
      have hhn : h ≤ n := by rw [eh, eo, em]; unfold cz; omega
      have hon : (o : Int) < (n : Int) := by omega
      have hmin : min ((o : Int) + 31) (n : Int) = (h : Int) := by rw [eh, em]; unfold cz; omega
      have ho6 : (o : Int) ≤ 65535 := by omega
      obtain ⟨a', hcut, hSa⟩ := cut2 (c := c) (HS.out.below hbel) hc eh hhn hm0
      have HSa := Lib.hid hSa
      have HI := Lib.hid (And.intro eo (And.intro em eh))
      rw [← eo]
      clear eo em eh hSa hbel h31
      go_wp2_with fail
      refine Calls.mono (refNumber_s _ a' m (c - o) _ (by omega) hm0 HSa.out) ?_
      rintro _ w1 ⟨rfl, h1⟩
      obtain ⟨c1, f1, s1⟩ := bfacts h1
      try simp only [World.size_alloc, World.size_setCell, size_drew, size_drewN] at s1
      obtain ⟨X, eX⟩ : ∃ X, X = le (fun j => f (o + j)) m := ⟨_, rfl⟩
      rw [← eX]
      have EX := Lib.hid eX
      clear eX
      go_wp2_with (at_builtin; refine wpList_append_own _ rfl (.tmp 15) (.tmp 25) 42 rfl w.heap.size 44 i0 _ 4 32 Tryd.underlying42 Hi.out Hz0.out Hz1.out Hz2.out rfl (by decide) _ _ _ rfl ((row_below Hown.out h1).alloc _) ⟨w1.heap.size, 0, none⟩ 1 1 (vc X) rfl rfl (vec_src _ _ _) (vc_one X) (by unfold maxLen; omega) (by omega) (by have := Hbel.out.size; simp only [World.size_alloc]; omega) ?_; intro r' w2 hown' hgrow' _)
      have R1 := Lib.hid hown'
      have R2 := Lib.hid (Hbel.out.trans (((Below.mono h1 Hbel.out.size).alloc (by have := Hbel.out.size; omega) _).grown hgrow' (by have := Hbel.out.size; simp only [World.size_alloc]; omega) (fun j hj => (Hown.out.lt j hj).1)))
      clear hown' hgrow'
      go_wp2_with fail
      go_roundw
      case rel =>
        refine ⟨k + 1, by omega, ?_, ?_, R2.out⟩
        · rw [show ((31 * (k + 1) : Nat) : Int) = (o : Int) + 31 by have := HI.out.1; omega]
        · have e : X = cv n f k := by rw [EX.out]; unfold cv; rw [HI.out.2.1, HI.out.1]
          rw [List.range_succ, List.map_append, List.map_cons, List.map_nil, vcs_snoc, ← e]
          exact R1.out
      case measure => simp [intOf]; omega
    · obtain rfl : k = cn n := by omega
      have hge : (n : Int) ≤ ((31 * cn n : Nat) : Int) := by have := cn_hi hn (Nat.le_refl (cn (n : Int))); omega
      go_wp2_with fail
      exact bodyPost_ret (v := .tuple #[u4, .int .i64 0]) (by simp only [results, Tryd.results40]; go_simp) rfl ⟨⟨_, rfl, Hown.out⟩, Hbel.out⟩
end Go.Proofs.YtpggmebgndkpjaaDoor
