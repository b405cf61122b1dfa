/- The laws of chapter 19. -/
import Derived.Test.YtjhfepkpfakemaaDoorRecLaw
import Derived.Test.YtjhfepkpfakemaaDoorSame
namespace Go.Proofs.YtjhfepkpfakemaaDoor
set_option linter.all false
open Go Go.RowKit

theorem lst0 {w : World} {a : Option Addr} {c s : Nat} (h : a = none → c = 0) : LstAt w s (.slice a 0 c) 0 [] := ⟨by simp, a, c, rfl, Nat.zero_le _, fun e => ⟨rfl, h e⟩, fun _ _ h => absurd h (by decide)⟩
theorem en_same {α : Type} {c : α → List Value} {f g : Nat → α} {n : Nat} (h : ∀ i, i < n → f i = g i) : en c f n = en c g n := by
  unfold en
  rw [List.flatMap_def, List.flatMap_def]
  congr 1
  exact List.map_congr_left fun i hi => by rw [h i (List.mem_range.1 hi)]
section
variable (s : Bool) (T I L : Int) (n : Nat) (X : Nat → Nat)
/-- A share that may be written. -/
structure GoodS : Prop where
  hT : 1 ≤ T ∧ T ≤ 255
  hI : 1 ≤ I ∧ I ≤ 255
  hL : 0 ≤ L ∧ L ≤ 65535
  hn : n = cn L
  hX : ∀ i, i < n → X i < pr s
theorem GoodS.of {s : Bool} {T I L : Int} {n : Nat} {X : Nat → Nat} (h : shErr (fid s) T I L n X = 0) : GoodS s T I L n X := by
  obtain ⟨_, hT, hI, hL, hn, ho⟩ := shErr_zero h
  rw [fid_dec] at ho
  exact ⟨hT, hI, hL, hn, fun i hi => okB_at ho hi⟩
theorem GoodS.err {s : Bool} {T I L : Int} {n : Nat} {X : Nat → Nat} (h : GoodS s T I L n X) : shErr (fid s) T I L n X = 0 := by
  unfold shErr
  rw [fid_dec, if_pos (fid_or s), if_pos h.hT, if_pos h.hI, if_pos h.hL, if_pos h.hn, if_pos (okB_of h.hX)]
theorem GoodS.small {s : Bool} {T I L : Int} {n : Nat} {X : Nat → Nat} (h : GoodS s T I L n X) : n ≤ 2115 := by have := cn_small L; have := h.hn; omega
variable {s T I L n X}
theorem encGood (h : GoodS s T I L n X) (la : Option Addr) (lc : Nat) (W : World) (HX : LstAt W 4 (.slice la n lc) n (en vq X n)) (HL : Laid W) (HS : Sh.Laid W) :
    Calls Tryd.prog 13 #[.agg #[.int .i64 (fid s), .int .i64 T, .int .i64 I, .int .i64 L, .slice la n lc]] W fun e w => ∃ a c, e = .returned (.tuple #[.slice a (38 + 32 * n) c, .int .i64 0]) ∧ Sat no W [row 5 1 (.slice a (38 + 32 * n) c) (38 + 32 * n) (el bc (recB s T I L n X))] [] w := by
  refine (recEnc_c (fid s) T I L la n lc X W HX (by have := h.small; omega) (fun i hi => Nat.lt_trans (h.hX i hi) (pr_lt s)) HL HS).mono ?_
  rintro e w ⟨a, k, c, rfl, hs⟩
  unfold rB at hs
  rw [if_pos h.err, fid_dec] at hs
  have hk := lst_num (row_lst (hs.mi 0 rfl))
  rw [recB_len] at hk
  subst hk
  exact ⟨a, c, by rw [h.err], hs⟩
theorem decGood (h : GoodS s T I L n X) (la : Option Addr) (m lc : Nat) (hm : m = 38 + 32 * n) (W : World) (H : LstAt W 1 (.slice la m lc) m (el bc (recB s T I L n X))) (HL : Laid W) (HS : Sh.Laid W) :
    Calls Tryd.prog 16 #[.slice la m lc] W fun e w => ∃ a c, e = .returned (.tuple #[.agg #[.int .i64 (fid s), .int .i64 T, .int .i64 I, .int .i64 L, .slice a n c], .int .i64 0]) ∧ Sat no W [row 51 4 (.slice a n c) n (en vq X n)] [] w := by
  refine (recDec_c la m lc _ W H (recB_lt h.hT.2 h.hI.2 h.hL.2) (by have := h.small; omega) HL HS).mono ?_
  rintro e w ⟨a, c, rfl, hs⟩
  have hl := lst_num H
  subst hl
  have he := rt (s := s) (X := X) h.hT h.hI h.hL h.hn
  have e1 : ∀ x, dG (recB s T I L n X).length (recB s T I L n X) x = x := fun x => if_pos he
  have e2 : dN (recB s T I L n X).length (recB s T I L n X) = n := by unfold dN; rw [if_pos he, recB_dL h.hL.1]; exact h.hn.symm
  rw [e2, recB_dS] at hs
  rw [en_same (g := X) (fun i hi => by rw [recB_dv hi]; exact RR_valm s (h.hX i hi))] at hs
  refine ⟨a, c, ?_, hs⟩
  rw [e1, e1, e1, e1, e2, he, recB_B1, recB_B2 (by have := h.hT; omega), recB_B3 (by have := h.hI; omega), recB_dL h.hL.1]
theorem tagGood (h : GoodS s T I L n X) : tErr (38 + 32 * n) = 0 ∧ tB (38 + 32 * n) (recB s T I L n X) = recB s T I L n X := by
  refine ⟨if_neg (by omega), ?_⟩
  unfold tB
  rw [if_neg (by omega), show 38 + 32 * n - 32 = (bodyB s T I L n X).length by rw [bodyB_len]; omega, List.take_left]
theorem retGood (h : GoodS s T I L n X) (la : Option Addr) (m lc : Nat) (hm : m = 38 + 32 * n) (W : World) (H : LstAt W 1 (.slice la m lc) m (el bc (recB s T I L n X))) (HS : Sh.Laid W) :
    Calls Tryd.prog 21 #[.slice la m lc] W fun e w => ∃ a c, e = .returned (.tuple #[.slice a (38 + 32 * n) c, .int .i64 0]) ∧ Sat no W [row 5 1 (.slice a (38 + 32 * n) c) (38 + 32 * n) (el bc (recB s T I L n X))] [] w := by
  subst hm
  refine (retag_c la _ lc _ W H (recB_lt h.hT.2 h.hI.2 h.hL.2) (by have := h.small; omega) HS).mono ?_
  rintro e w ⟨a, k, c, rfl, hs⟩
  rw [(tagGood h).2] at hs
  have hk := lst_num (row_lst (hs.mi 0 rfl))
  rw [recB_len] at hk
  subst hk
  exact ⟨a, c, by rw [(tagGood h).1], hs⟩
end
theorem good0 : GoodS false 2 3 0 0 (fun _ => 0) := ⟨by decide, by decide, by decide, by decide, fun i hi => absurd hi (by omega)⟩
theorem decOk {n : Nat} {l : List Nat} (h : dErr n l = 0) {W w : World} {e : Ending} (hq : DQ W n l e w) : ∃ a c, e = .returned (.tuple #[.agg #[.int .i64 (B l 1), .int .i64 (B l 2), .int .i64 (B l 3), .int .i64 (dL l), .slice a (cn (dL l)) c], .int .i64 0]) ∧
    Sat no W [row 51 4 (.slice a (cn (dL l)) c) (cn (dL l)) (en vq (fun i => RR (dS l) (dv l i)) (cn (dL l)))] [] w := by
  obtain ⟨a, c, rfl, hs⟩ := hq
  have e1 : ∀ x, dG n l x = x := fun x => if_pos h
  have e2 : dN n l = cn (dL l) := if_pos h
  rw [e2] at hs
  exact ⟨a, c, by rw [e1, e1, e1, e1, e2, h], hs⟩
theorem decBad {n : Nat} {l : List Nat} (h : dErr n l ≠ 0) {W w : World} {e : Ending} (hq : DQ W n l e w) : ∃ a c, e = .returned (.tuple #[.agg #[.int .i64 0, .int .i64 0, .int .i64 0, .int .i64 0, .slice a 0 c], .int .i64 (dErr n l)]) ∧
    Sat no W [row 51 4 (.slice a 0 c) 0 (en vq (fun _ => 0) 0)] [] w := by
  obtain ⟨a, c, rfl, hs⟩ := hq
  have e1 : ∀ x, dG n l x = 0 := fun x => if_neg h
  have e2 : dN n l = 0 := if_neg h
  rw [e2, en_same (g := fun _ => 0) (fun i hi => absurd hi (Nat.not_lt_zero _))] at hs
  exact ⟨a, c, by rw [e1, e1, e1, e1, e2], hs⟩
theorem dN_small (n : Nat) (l : List Nat) : dN n l ≤ 2115 := by
  unfold dN
  split
  · exact cn_small _
  · omega
theorem canonGood {n : Nat} {l : List Nat} (hn : n = l.length) (hl : ∀ x ∈ l, x < 256) (h : dErr n l = 0) (la : Option Addr) (lc : Nat) (W : World) (HX : LstAt W 4 (.slice la (cn (dL l)) lc) (cn (dL l)) (en vq (fun i => RR (dS l) (dv l i)) (cn (dL l)))) (HL : Laid W) (HS : Sh.Laid W) :
    Calls Tryd.prog 13 #[.agg #[.int .i64 (B l 1), .int .i64 (B l 2), .int .i64 (B l 3), .int .i64 (dL l), .slice la (cn (dL l)) lc]] W fun e w => ∃ a c, e = .returned (.tuple #[.slice a n c, .int .i64 0]) ∧ Sat no W [row 5 1 (.slice a n c) n (el bc l)] [] w := by
  obtain ⟨h1, h2⟩ := canon hn hl h
  refine (recEnc_c _ _ _ _ la _ lc _ W HX (by have := cn_small (dL l); omega) (fun i _ => Nat.lt_trans (RR_lt _ _) (pr_lt _)) HL HS).mono ?_
  rintro e w ⟨a, k, c, rfl, hs⟩
  rw [h2] at hs
  have hk := lst_num (row_lst (hs.mi 0 rfl))
  rw [← hn] at hk
  subst hk
  exact ⟨a, c, by rw [h1], hs⟩
theorem alive19_c  (W : World) (HL : Laid W) (HS : Sh.Laid W) : Calls Tryd.prog 9 [].toArray W fun e w => e = .returned (.bool true) ∧ Below W.heap.size W w := by
  refine c_enter (args := []) Tryd.func9 rfl rfl rfl fun a hk => ?_
  have hs := Sat.start W [] (fun _ h => by cases h)
  refine wpIn_seq ?_
  refine wpIn_region_lit ?_
  refine q_val hk (w_as rfl) rfl rfl rfl fun a hk => ?_
  refine (c_end (x_t ?_))
  refine wpIn_seq ?_
  refine wpIn_region_lit ?_
  refine q_val hk (w_bld rfl fl27 zr27 rfl rfl) rfl rfl rfl fun a hk => ?_
  refine q_alc (vs := [.int .i64 0, .int .i64 0, .int .i64 0, .int .i64 0, .slice none 0 0]) hk hs zr27 rfl rfl rfl fun b1 w a hk hs => ?_
  refine q_sto (o := 0) (cs := [.int .i64 1, .int .i64 2, .int .i64 3, .int .i64 0, .slice none 0 0]) (vs' := [.int .i64 1, .int .i64 2, .int .i64 3, .int .i64 0, .slice none 0 0]) hk hs rfl rfl rfl ty27 rfl rfl rfl rfl rfl rfl fun w hs => ?_
  refine (c_end (x_t ?_))
  refine wpIn_seq ?_
  refine wpIn_region_lit ?_
  refine q_val hk (w_ldA rfl ty27 (.blk (n := 5) (hs.mi 0 rfl) rfl) rfl) rfl rfl rfl fun a hk => ?_
  refine q_call (caps := []) hk rfl rfl Tryd.func13 fo13 rfl rfl (encGood good0 none 0 _ (lst0 (fun _ => rfl)) (HL.step hs.toBelow) (HS.step hs.toBelow)) ?_
  rintro _ w ⟨a2, c3, rfl, hS⟩
  have hs := hs.call1 hS
  clear hS
  refine ⟨_, rfl, fun a hk => ?_⟩
  refine q_val hk (w_mv rfl) rfl rfl rfl fun a hk => ?_
  refine q_val hk (w_ext rfl rfl) rfl rfl rfl fun a hk => ?_
  refine q_val hk (w_ext rfl rfl) rfl rfl rfl fun a hk => ?_
  refine q_val hk (w_as rfl) rfl rfl rfl fun a hk => ?_
  refine q_val hk (w_as rfl) rfl rfl rfl fun a hk => ?_
  refine (c_end (x_t ?_))
  refine wpIn_seq ?_
  refine wpIn_region_lit ?_
  refine q_val hk (w_mv rfl) rfl rfl rfl fun a hk => ?_
  refine q_call (caps := []) hk rfl rfl Tryd.func16 fo16 rfl rfl (decGood good0 _ _ _ rfl _ (row_lst (hs.mi 0 rfl)) (HL.step hs.toBelow) (HS.step hs.toBelow)) ?_
  rintro _ w ⟨a4, c5, rfl, hS⟩
  have hs := hs.call1 hS
  clear hS
  refine ⟨_, rfl, fun a hk => ?_⟩
  refine q_val hk (w_mv rfl) rfl rfl rfl fun a hk => ?_
  refine q_val hk (w_ext rfl rfl) rfl rfl rfl fun a hk => ?_
  refine q_val hk (w_ext rfl rfl) rfl rfl rfl fun a hk => ?_
  refine q_alc (vs := [.int .i64 0, .int .i64 0, .int .i64 0, .int .i64 0, .slice none 0 0]) hk hs zr27 rfl rfl rfl fun b6 w a hk hs => ?_
  refine q_sto (o := 0) (cs := [.int .i64 1, .int .i64 2, .int .i64 3, .int .i64 0, .slice a4 0 c5]) (vs' := [.int .i64 1, .int .i64 2, .int .i64 3, .int .i64 0, .slice a4 0 c5]) hk hs rfl rfl rfl ty27 rfl rfl rfl rfl rfl rfl fun w hs => ?_
  refine q_val hk (w_as rfl) rfl rfl rfl fun a hk => ?_
  refine (c_end (x_t ?_))
  refine wpIn_seq ?_
  refine wpIn_region_lit ?_
  refine q_val hk (w_mv rfl) rfl rfl rfl fun a hk => ?_
  refine q_call (caps := []) hk rfl rfl Tryd.func21 fo21 rfl rfl (retGood good0 _ _ _ rfl _ (row_lst (hs.mi 2 rfl)) (HS.step hs.toBelow)) ?_
  rintro _ w ⟨a7, c8, rfl, hS⟩
  have hs := hs.call1 hS
  clear hS
  refine ⟨_, rfl, fun a hk => ?_⟩
  refine q_val hk (w_mv rfl) rfl rfl rfl fun a hk => ?_
  refine q_val hk (w_ext rfl rfl) rfl rfl rfl fun a hk => ?_
  refine q_val hk (w_ext rfl rfl) rfl rfl rfl fun a hk => ?_
  refine q_val hk (w_as rfl) rfl rfl rfl fun a hk => ?_
  refine q_val hk (w_as rfl) rfl rfl rfl fun a hk => ?_
  refine (c_end (x_t ?_))
  refine wpIn_seq ?_
  refine wpIn_region_lit ?_
  refine q_val hk (w_mv rfl) rfl rfl rfl fun a hk => ?_
  refine q_val hk (w_eq rfl rfl (decide_eq_true (by decide))) rfl rfl rfl fun a hk => ?_
  refine q_val hk (w_mv rfl) rfl rfl rfl fun a hk => ?_
  refine q_val hk (w_mv rfl) rfl rfl rfl fun a hk => ?_
  refine q_val hk (w_len rfl Tryd.underlying29) rfl rfl rfl fun a hk => ?_
  refine q_val hk (w_eq rfl rfl (decide_eq_true (by decide))) rfl rfl rfl fun a hk => ?_
  refine q_val hk (w_pickT rfl rfl) rfl rfl rfl fun a hk => ?_
  refine q_val hk (w_mv rfl) rfl rfl rfl fun a hk => ?_
  refine q_val hk (w_mv rfl) rfl rfl rfl fun a hk => ?_
  refine q_bsl (els := [.const (.int .u8 1), .const (.int .u8 1), .const (.int .u8 2), .const (.int .u8 3), .const (.int .u8 0), .const (.int .u8 0)]) (cs := [.int .u8 1, .int .u8 1, .int .u8 2, .int .u8 3, .int .u8 0, .int .u8 0]) hk hs rfl Tryd.underlying29 ty5 zr5 rfl rfl rfl rfl rfl rfl rfl fun b9 w a hk hs => ?_
  refine q_call (caps := []) hk rfl rfl Tryd.func23 fo23 rfl rfl (prefixQ _ _ _ _ _ _ _ (hdB 1 2 3 0) _ (row_lst (hs.mi 4 rfl)) (blk_lst (hs.mi 0 rfl) rfl (Nat.le_refl _))) ?_
  rintro _ _ ⟨rfl, rfl⟩
  refine ⟨_, rfl, fun a hk => ?_⟩
  refine q_val hk (w_pickT rfl rfl) rfl rfl rfl fun a hk => ?_
  refine q_val hk (w_mv rfl) rfl rfl rfl fun a hk => ?_
  refine q_val hk (w_mv rfl) rfl rfl rfl fun a hk => ?_
  refine q_val hk (w_eq rfl rfl (decide_eq_true (by decide))) rfl rfl rfl fun a hk => ?_
  refine q_val hk (w_pickT rfl rfl) rfl rfl rfl fun a hk => ?_
  refine q_val hk (w_mv rfl) rfl rfl rfl fun a hk => ?_
  refine q_val hk (w_fa rfl fq27_2 ty3) rfl rfl rfl fun a hk => ?_
  refine q_val hk (w_ld1 rfl ty3 (.blk (n := 1) (hs.mi 2 rfl) rfl)) rfl rfl rfl fun a hk => ?_
  refine q_val hk (w_eq rfl rfl (decide_eq_true (by decide))) rfl rfl rfl fun a hk => ?_
  refine q_val hk (w_pickT rfl rfl) rfl rfl rfl fun a hk => ?_
  refine q_val hk (w_mv rfl) rfl rfl rfl fun a hk => ?_
  refine q_val hk (w_mv rfl) rfl rfl rfl fun a hk => ?_
  refine q_val hk (w_eq rfl rfl (decide_eq_true (by decide))) rfl rfl rfl fun a hk => ?_
  refine q_val hk (w_pickT rfl rfl) rfl rfl rfl fun a hk => ?_
  refine q_val hk (w_mv rfl) rfl rfl rfl fun a hk => ?_
  refine q_val hk (w_mv rfl) rfl rfl rfl fun a hk => ?_
  refine q_val hk (w_mv rfl) rfl rfl rfl fun a hk => ?_
  refine q_call (caps := []) hk rfl rfl Tryd.func15 fo15 rfl rfl (bytesEqQ _ _ _ _ _ _ _ _ _ (row_lst (hs.mi 4 rfl)) (row_lst (hs.mi 1 rfl)) rfl) ?_
  rintro _ _ ⟨rfl, rfl⟩
  refine ⟨_, rfl, fun a hk => ?_⟩
  refine q_val hk (w_pickT rfl rfl) rfl rfl rfl fun a hk => ?_
  refine q_val hk (w_mv rfl) rfl rfl rfl fun a hk => ?_
  refine q_call (caps := []) hk rfl rfl Tryd.func10 fo10 rfl rfl (size_c 0 _) ?_
  rintro _ w ⟨rfl, hb⟩
  have hs := hs.below hb
  refine ⟨_, rfl, fun a hk => ?_⟩
  refine q_val hk (w_eq rfl rfl (decide_eq_true (by decide))) rfl rfl rfl fun a hk => ?_
  refine q_val hk (w_pickT rfl rfl) rfl rfl rfl fun a hk => ?_
  refine q_val hk (w_as rfl) rfl rfl rfl fun a hk => ?_
  refine (c_end (x_t ?_))
  refine (wpIn_ret ?_)
  refine c_ret1 hk rfl rfl ?_
  exact ⟨rfl, hs.toBelow⟩
theorem lawSizes_c (L : Int) (W : World) (HL : Laid W) (HS : Sh.Laid W) : Calls Tryd.prog 3 [.int .i64 L].toArray W fun e w => e = .returned (.bool true) ∧ Below W.heap.size W w := by
  refine c_enter (args := [.int .i64 L]) Tryd.func3 rfl rfl rfl fun a hk => ?_
  have hs := Sat.start W [] (fun _ h => by cases h)
  refine wpIn_seq ?_
  refine wpIn_region_lit ?_
  refine q_val hk (w_as rfl) rfl rfl rfl fun a hk => ?_
  refine (c_end (x_t ?_))
  refine wpIn_seq ?_
  refine wpIn_region_lit ?_
  refine q_call (caps := []) hk rfl rfl Tryd.func9 fo9 rfl rfl (alive19_c _ (HL.step hs.toBelow) (HS.step hs.toBelow)) ?_
  rintro _ w ⟨rfl, hb⟩
  have hs := hs.below hb
  refine ⟨_, rfl, fun a hk => ?_⟩
  refine q_val hk (w_mv rfl) rfl rfl rfl fun a hk => ?_
  refine q_val hk (w_mv rfl) rfl rfl rfl fun a hk => ?_
  refine q_call (caps := []) hk rfl rfl Tryd.func10 fo10 rfl rfl (size_c L _) ?_
  rintro _ w ⟨rfl, hb⟩
  have hs := hs.below hb
  refine ⟨_, rfl, fun a hk => ?_⟩
  refine q_val hk (w_mv rfl) rfl rfl rfl fun a hk => ?_
  refine q_call (caps := []) hk rfl rfl Tryd.func11 fo11 rfl rfl (refSize_c L _) ?_
  rintro _ w ⟨rfl, hb⟩
  have hs := hs.below hb
  refine ⟨_, rfl, fun a hk => ?_⟩
  refine q_val hk (w_eq rfl rfl (decide_eq_true rfl)) rfl rfl rfl fun a hk => ?_
  refine q_val hk (w_pickT rfl rfl) rfl rfl rfl fun a hk => ?_
  refine q_val hk (w_as rfl) rfl rfl rfl fun a hk => ?_
  refine (c_end (x_t ?_))
  refine (wpIn_ret ?_)
  refine c_ret1 hk rfl rfl ?_
  exact ⟨rfl, hs.toBelow⟩
theorem large_t (F T I L : Int) (la : Option Addr) (n lc : Nat) (h : 40 < n) (W : World) : Calls Tryd.prog 12 #[.agg #[.int .i64 F, .int .i64 T, .int .i64 I, .int .i64 L, .slice la n lc]] W fun e w => e = .returned (.bool true) ∧ Below W.heap.size W w := by
  have := large_c F T I L la n lc W
  rwa [decide_eq_true h] at this
theorem large_f (F T I L : Int) (la : Option Addr) (n lc : Nat) (h : ¬ 40 < n) (W : World) : Calls Tryd.prog 12 #[.agg #[.int .i64 F, .int .i64 T, .int .i64 I, .int .i64 L, .slice la n lc]] W fun e w => e = .returned (.bool false) ∧ Below W.heap.size W w := by
  have := large_c F T I L la n lc W
  rwa [decide_eq_false h] at this
theorem lawEncodes_c (F T I L : Int) (la : Option Addr) (n lc : Nat) (X : Nat → Nat) (W : World) (HX : LstAt W 4 (.slice la n lc) n (en vq X n)) (H4 : ∀ i, i < n → X i < R4) (HL : Laid W) (HS : Sh.Laid W) : Calls Tryd.prog 4 [.agg #[.int .i64 F, .int .i64 T, .int .i64 I, .int .i64 L, .slice la n lc]].toArray W fun e w => e = .returned (.bool true) ∧ Below W.heap.size W w := by
  refine c_enter (args := [.agg #[.int .i64 F, .int .i64 T, .int .i64 I, .int .i64 L, .slice la n lc]]) Tryd.func4 rfl rfl rfl fun a hk => ?_
  have hs := Sat.start W [lst 4 (.slice la n lc) n (en vq X n)] (okr1 HX)
  refine wpIn_seq ?_
  refine wpIn_region_lit ?_
  refine q_box (vs := [.int .i64 F, .int .i64 T, .int .i64 I, .int .i64 L, .slice la n lc]) hk hs rfl rfl rfl rfl fun b1 w a hk hs => ?_
  refine q_val hk (w_as rfl) rfl rfl rfl fun a hk => ?_
  refine (c_end (x_t ?_))
  refine wpIn_seq ?_
  refine wpIn_seq ?_
  refine wpIn_region_lit ?_
  refine q_val hk (w_ldA rfl ty27 (.blk (n := 5) (hs.mi 0 rfl) rfl) rfl) rfl rfl rfl fun a hk => ?_
  rcases Classical.em (40 < n) with hc2 | hc2
  · skip
    refine q_call (caps := []) hk rfl rfl Tryd.func12 fo12 rfl rfl (large_t _ _ _ _ _ _ _ hc2 _) ?_
    rintro _ w ⟨rfl, hb⟩
    have hs := hs.below hb
    refine ⟨_, rfl, fun a hk => ?_⟩
    refine (c_end (x_t ?_))
    refine c_T hk rfl ?_
    refine wpIn_seq ?_
    refine wpIn_region_lit ?_
    refine q_call (caps := []) hk rfl rfl Tryd.func9 fo9 rfl rfl (alive19_c _ (HL.step hs.toBelow) (HS.step hs.toBelow)) ?_
    rintro _ w ⟨rfl, hb⟩
    have hs := hs.below hb
    refine ⟨_, rfl, fun a hk => ?_⟩
    refine q_val hk (w_as rfl) rfl rfl rfl fun a hk => ?_
    refine (c_end (x_t ?_))
    refine (wpIn_ret (x_tr ?_))
    refine c_ret1 hk rfl rfl ?_
    exact ⟨rfl, hs.toBelow⟩
  · skip
    refine q_call (caps := []) hk rfl rfl Tryd.func12 fo12 rfl rfl (large_f _ _ _ _ _ _ _ hc2 _) ?_
    rintro _ w ⟨rfl, hb⟩
    have hs := hs.below hb
    refine ⟨_, rfl, fun a hk => ?_⟩
    refine (c_end (x_t ?_))
    refine c_F hk rfl ?_
    refine (wpIn_skip (x_t ?_))
    refine wpIn_seq ?_
    refine wpIn_region_lit ?_
    refine q_val hk (w_ldA rfl ty27 (.blk (n := 5) (hs.mi 0 rfl) rfl) rfl) rfl rfl rfl fun a hk => ?_
    refine q_call (caps := []) hk rfl rfl Tryd.func13 fo13 rfl rfl (recEnc_c F T I L _ _ _ X _ (hs.ri 0 rfl) (by omega) H4 (HL.step hs.toBelow) (HS.step hs.toBelow)) ?_
    rintro _ w ⟨a3, k4, c5, rfl, hS⟩
    have hs := hs.call1 hS
    clear hS
    refine ⟨_, rfl, fun a hk => ?_⟩
    refine q_val hk (w_mv rfl) rfl rfl rfl fun a hk => ?_
    refine q_val hk (w_ext rfl rfl) rfl rfl rfl fun a hk => ?_
    refine q_val hk (w_ext rfl rfl) rfl rfl rfl fun a hk => ?_
    refine q_val hk (w_as rfl) rfl rfl rfl fun a hk => ?_
    refine q_val hk (w_as rfl) rfl rfl rfl fun a hk => ?_
    refine (c_end (x_t ?_))
    refine wpIn_seq ?_
    refine wpIn_region_lit ?_
    refine q_val hk (w_ldA rfl ty27 (.blk (n := 5) (hs.mi 1 rfl) rfl) rfl) rfl rfl rfl fun a hk => ?_
    refine q_call (caps := []) hk rfl rfl Tryd.func14 fo14 rfl rfl (refRecEnc_c F T I L _ _ _ X _ (hs.ri 0 rfl) (by omega) H4) ?_
    rintro _ w ⟨a6, k7, c8, rfl, hS⟩
    have hs := hs.call1 hS
    clear hS
    refine ⟨_, rfl, fun a hk => ?_⟩
    refine q_val hk (w_mv rfl) rfl rfl rfl fun a hk => ?_
    refine q_val hk (w_ext rfl rfl) rfl rfl rfl fun a hk => ?_
    refine q_val hk (w_ext rfl rfl) rfl rfl rfl fun a hk => ?_
    refine q_val hk (w_as rfl) rfl rfl rfl fun a hk => ?_
    refine q_val hk (w_as rfl) rfl rfl rfl fun a hk => ?_
    refine (c_end (x_t ?_))
    refine wpIn_seq ?_
    refine wpIn_region_lit ?_
    refine q_call (caps := []) hk rfl rfl Tryd.func9 fo9 rfl rfl (alive19_c _ (HL.step hs.toBelow) (HS.step hs.toBelow)) ?_
    rintro _ w ⟨rfl, hb⟩
    have hs := hs.below hb
    refine ⟨_, rfl, fun a hk => ?_⟩
    refine q_val hk (w_mv rfl) rfl rfl rfl fun a hk => ?_
    refine q_val hk (w_mv rfl) rfl rfl rfl fun a hk => ?_
    refine q_val hk (w_mv rfl) rfl rfl rfl fun a hk => ?_
    refine q_call (caps := []) hk rfl rfl Tryd.func15 fo15 rfl rfl (bytesEqQ _ _ _ _ _ _ _ _ _ (row_lst (hs.mi 1 rfl)) (row_lst (hs.mi 0 rfl)) rfl) ?_
    rintro _ _ ⟨rfl, rfl⟩
    refine ⟨_, rfl, fun a hk => ?_⟩
    refine q_val hk (w_pickT rfl rfl) rfl rfl rfl fun a hk => ?_
    refine q_val hk (w_mv rfl) rfl rfl rfl fun a hk => ?_
    refine q_val hk (w_mv rfl) rfl rfl rfl fun a hk => ?_
    refine q_val hk (w_mv rfl) rfl rfl rfl fun a hk => ?_
    refine q_val hk (w_eq rfl rfl (decide_eq_true rfl)) rfl rfl rfl fun a hk => ?_
    refine q_val hk (w_pickT rfl rfl) rfl rfl rfl fun a hk => ?_
    refine q_val hk (w_as rfl) rfl rfl rfl fun a hk => ?_
    refine (c_end (x_t ?_))
    refine (wpIn_ret ?_)
    refine c_ret1 hk rfl rfl ?_
    exact ⟨rfl, hs.toBelow⟩
theorem lawTags_c (la : Option Addr) (n lc : Nat) (l : List Nat) (W : World) (H : LstAt W 1 (.slice la n lc) n (el bc l)) (hl : ∀ x ∈ l, x < 256) (HL : Laid W) (HS : Sh.Laid W) : Calls Tryd.prog 8 [.slice la n lc].toArray W fun e w => e = .returned (.bool true) ∧ Below W.heap.size W w := by
  refine c_enter (args := [.slice la n lc]) Tryd.func8 rfl rfl rfl fun a hk => ?_
  have hs := Sat.start W [lst 1 (.slice la n lc) n (el bc l)] (okr1 H)
  refine wpIn_seq ?_
  refine wpIn_region_lit ?_
  refine q_val hk (w_as rfl) rfl rfl rfl fun a hk => ?_
  refine (c_end (x_t ?_))
  refine wpIn_seq ?_
  refine wpIn_seq ?_
  refine wpIn_region_lit ?_
  refine q_val hk (w_mv rfl) rfl rfl rfl fun a hk => ?_
  refine q_val hk (w_len rfl Tryd.underlying29) rfl rfl rfl fun a hk => ?_
  rcases Classical.em (1500 < ((n : Nat) : Int)) with hc1 | hc1
  · skip
    refine q_val hk (w_gt rfl rfl (decide_eq_true hc1)) rfl rfl rfl fun a hk => ?_
    refine (c_end (x_t ?_))
    refine c_T hk rfl ?_
    refine wpIn_seq ?_
    refine wpIn_region_lit ?_
    refine q_call (caps := []) hk rfl rfl Tryd.func9 fo9 rfl rfl (alive19_c _ (HL.step hs.toBelow) (HS.step hs.toBelow)) ?_
    rintro _ w ⟨rfl, hb⟩
    have hs := hs.below hb
    refine ⟨_, rfl, fun a hk => ?_⟩
    refine q_val hk (w_as rfl) rfl rfl rfl fun a hk => ?_
    refine (c_end (x_t ?_))
    refine (wpIn_ret (x_tr ?_))
    refine c_ret1 hk rfl rfl ?_
    exact ⟨rfl, hs.toBelow⟩
  · skip
    refine q_val hk (w_gt rfl rfl (decide_eq_false hc1)) rfl rfl rfl fun a hk => ?_
    refine (c_end (x_t ?_))
    refine c_F hk rfl ?_
    refine (wpIn_skip (x_t ?_))
    refine wpIn_seq ?_
    refine wpIn_region_lit ?_
    refine q_val hk (w_mv rfl) rfl rfl rfl fun a hk => ?_
    refine q_call (caps := []) hk rfl rfl Tryd.func20 fo20 rfl rfl (cloneQ _ n _ l _ (hs.ri 0 rfl) (by omega)) ?_
    rintro _ w ⟨a2, c3, rfl, hS⟩
    have hs := hs.call1 hS
    clear hS
    refine ⟨_, rfl, fun a hk => ?_⟩
    refine q_val hk (w_as rfl) rfl rfl rfl fun a hk => ?_
    refine (c_end (x_t ?_))
    refine wpIn_seq ?_
    refine wpIn_region_lit ?_
    refine q_val hk (w_mv rfl) rfl rfl rfl fun a hk => ?_
    refine q_call (caps := []) hk rfl rfl Tryd.func21 fo21 rfl rfl (retag_c _ n _ l _ (hs.ri 0 rfl) hl (by omega) (HS.step hs.toBelow)) ?_
    rintro _ w ⟨a4, k5, c6, rfl, hS⟩
    have hs := hs.call1 hS
    clear hS
    refine ⟨_, rfl, fun a hk => ?_⟩
    refine q_val hk (w_mv rfl) rfl rfl rfl fun a hk => ?_
    refine q_val hk (w_ext rfl rfl) rfl rfl rfl fun a hk => ?_
    refine q_val hk (w_ext rfl rfl) rfl rfl rfl fun a hk => ?_
    refine q_val hk (w_as rfl) rfl rfl rfl fun a hk => ?_
    refine q_val hk (w_as rfl) rfl rfl rfl fun a hk => ?_
    refine (c_end (x_t ?_))
    refine wpIn_seq ?_
    refine wpIn_region_lit ?_
    refine q_val hk (w_mv rfl) rfl rfl rfl fun a hk => ?_
    refine q_call (caps := []) hk rfl rfl Tryd.func22 fo22 rfl rfl (refRetag_c _ n _ l _ (row_lst (hs.mi 1 rfl)) hl (by omega)) ?_
    rintro _ w ⟨a7, k8, c9, rfl, hS⟩
    have hs := hs.call1 hS
    clear hS
    refine ⟨_, rfl, fun a hk => ?_⟩
    refine q_val hk (w_mv rfl) rfl rfl rfl fun a hk => ?_
    refine q_val hk (w_ext rfl rfl) rfl rfl rfl fun a hk => ?_
    refine q_val hk (w_ext rfl rfl) rfl rfl rfl fun a hk => ?_
    refine q_val hk (w_as rfl) rfl rfl rfl fun a hk => ?_
    refine q_val hk (w_as rfl) rfl rfl rfl fun a hk => ?_
    refine (c_end (x_t ?_))
    refine wpIn_seq ?_
    refine wpIn_region_lit ?_
    refine q_call (caps := []) hk rfl rfl Tryd.func9 fo9 rfl rfl (alive19_c _ (HL.step hs.toBelow) (HS.step hs.toBelow)) ?_
    rintro _ w ⟨rfl, hb⟩
    have hs := hs.below hb
    refine ⟨_, rfl, fun a hk => ?_⟩
    refine q_val hk (w_mv rfl) rfl rfl rfl fun a hk => ?_
    refine q_val hk (w_mv rfl) rfl rfl rfl fun a hk => ?_
    refine q_val hk (w_mv rfl) rfl rfl rfl fun a hk => ?_
    refine q_call (caps := []) hk rfl rfl Tryd.func15 fo15 rfl rfl (bytesEqQ _ _ _ _ _ _ _ _ _ (row_lst (hs.mi 1 rfl)) (row_lst (hs.mi 0 rfl)) rfl) ?_
    rintro _ _ ⟨rfl, rfl⟩
    refine ⟨_, rfl, fun a hk => ?_⟩
    refine q_val hk (w_pickT rfl rfl) rfl rfl rfl fun a hk => ?_
    refine q_val hk (w_mv rfl) rfl rfl rfl fun a hk => ?_
    refine q_val hk (w_mv rfl) rfl rfl rfl fun a hk => ?_
    refine q_val hk (w_mv rfl) rfl rfl rfl fun a hk => ?_
    refine q_val hk (w_eq rfl rfl (decide_eq_true rfl)) rfl rfl rfl fun a hk => ?_
    refine q_val hk (w_pickT rfl rfl) rfl rfl rfl fun a hk => ?_
    refine q_val hk (w_mv rfl) rfl rfl rfl fun a hk => ?_
    refine q_val hk (w_mv rfl) rfl rfl rfl fun a hk => ?_
    refine q_val hk (w_mv rfl) rfl rfl rfl fun a hk => ?_
    refine q_call (caps := []) hk rfl rfl Tryd.func15 fo15 rfl rfl (bytesEqQ _ _ _ _ _ _ _ _ _ (hs.ri 0 rfl) (row_lst (hs.mi 2 rfl)) rfl) ?_
    rintro _ _ ⟨rfl, rfl⟩
    refine ⟨_, rfl, fun a hk => ?_⟩
    refine q_val hk (w_pickT rfl rfl) rfl rfl rfl fun a hk => ?_
    refine q_val hk (w_as rfl) rfl rfl rfl fun a hk => ?_
    refine (c_end (x_t ?_))
    refine (wpIn_ret ?_)
    refine c_ret1 hk rfl rfl ?_
    exact ⟨rfl, hs.toBelow⟩
theorem lawDecodes_c (la : Option Addr) (n lc : Nat) (l : List Nat) (W : World) (H : LstAt W 1 (.slice la n lc) n (el bc l)) (hl : ∀ x ∈ l, x < 256) (HL : Laid W) (HS : Sh.Laid W) : Calls Tryd.prog 5 [.slice la n lc].toArray W fun e w => e = .returned (.bool true) ∧ Below W.heap.size W w := by
  have hdN := dN_small n l
  refine c_enter (args := [.slice la n lc]) Tryd.func5 rfl rfl rfl fun a hk => ?_
  have hs := Sat.start W [lst 1 (.slice la n lc) n (el bc l)] (okr1 H)
  refine wpIn_seq ?_
  refine wpIn_region_lit ?_
  refine q_val hk (w_as rfl) rfl rfl rfl fun a hk => ?_
  refine (c_end (x_t ?_))
  refine wpIn_seq ?_
  refine wpIn_seq ?_
  refine wpIn_region_lit ?_
  refine q_val hk (w_mv rfl) rfl rfl rfl fun a hk => ?_
  refine q_val hk (w_len rfl Tryd.underlying29) rfl rfl rfl fun a hk => ?_
  rcases Classical.em (1500 < ((n : Nat) : Int)) with hc1 | hc1
  · skip
    refine q_val hk (w_gt rfl rfl (decide_eq_true hc1)) rfl rfl rfl fun a hk => ?_
    refine (c_end (x_t ?_))
    refine c_T hk rfl ?_
    refine wpIn_seq ?_
    refine wpIn_region_lit ?_
    refine q_call (caps := []) hk rfl rfl Tryd.func9 fo9 rfl rfl (alive19_c _ (HL.step hs.toBelow) (HS.step hs.toBelow)) ?_
    rintro _ w ⟨rfl, hb⟩
    have hs := hs.below hb
    refine ⟨_, rfl, fun a hk => ?_⟩
    refine q_val hk (w_as rfl) rfl rfl rfl fun a hk => ?_
    refine (c_end (x_t ?_))
    refine (wpIn_ret (x_tr ?_))
    refine c_ret1 hk rfl rfl ?_
    exact ⟨rfl, hs.toBelow⟩
  · skip
    refine q_val hk (w_gt rfl rfl (decide_eq_false hc1)) rfl rfl rfl fun a hk => ?_
    refine (c_end (x_t ?_))
    refine c_F hk rfl ?_
    refine (wpIn_skip (x_t ?_))
    refine wpIn_seq ?_
    refine wpIn_region_lit ?_
    refine q_val hk (w_mv rfl) rfl rfl rfl fun a hk => ?_
    refine q_call (caps := []) hk rfl rfl Tryd.func16 fo16 rfl rfl (recDec_c _ _ _ l _ (hs.ri 0 rfl) hl (by omega) (HL.step hs.toBelow) (HS.step hs.toBelow)) ?_
    rintro _ w ⟨a2, c3, rfl, hS⟩
    have hs := hs.call1 hS
    clear hS
    refine ⟨_, rfl, fun a hk => ?_⟩
    refine q_val hk (w_mv rfl) rfl rfl rfl fun a hk => ?_
    refine q_val hk (w_ext rfl rfl) rfl rfl rfl fun a hk => ?_
    refine q_val hk (w_ext rfl rfl) rfl rfl rfl fun a hk => ?_
    refine q_alc (vs := [.int .i64 0, .int .i64 0, .int .i64 0, .int .i64 0, .slice none 0 0]) hk hs zr27 rfl rfl rfl fun b4 w a hk hs => ?_
    refine q_sto (o := 0) (cs := [.int .i64 (dG n l (B l 1)), .int .i64 (dG n l (B l 2)), .int .i64 (dG n l (B l 3)), .int .i64 (dG n l (dL l)), .slice a2 (dN n l) c3]) (vs' := [.int .i64 (dG n l (B l 1)), .int .i64 (dG n l (B l 2)), .int .i64 (dG n l (B l 3)), .int .i64 (dG n l (dL l)), .slice a2 (dN n l) c3]) hk hs rfl rfl rfl ty27 rfl rfl rfl rfl rfl rfl fun w hs => ?_
    refine q_val hk (w_as rfl) rfl rfl rfl fun a hk => ?_
    refine (c_end (x_t ?_))
    refine wpIn_seq ?_
    refine wpIn_region_lit ?_
    refine q_val hk (w_mv rfl) rfl rfl rfl fun a hk => ?_
    refine q_call (caps := []) hk rfl rfl Tryd.func17 fo17 rfl rfl (refDec_c _ _ _ l _ (hs.ri 0 rfl) hl (by omega)) ?_
    rintro _ w ⟨a5, c6, rfl, hS⟩
    have hs := hs.call1 hS
    clear hS
    refine ⟨_, rfl, fun a hk => ?_⟩
    refine q_val hk (w_mv rfl) rfl rfl rfl fun a hk => ?_
    refine q_val hk (w_ext rfl rfl) rfl rfl rfl fun a hk => ?_
    refine q_val hk (w_ext rfl rfl) rfl rfl rfl fun a hk => ?_
    refine q_alc (vs := [.int .i64 0, .int .i64 0, .int .i64 0, .int .i64 0, .slice none 0 0]) hk hs zr27 rfl rfl rfl fun b7 w a hk hs => ?_
    refine q_sto (o := 0) (cs := [.int .i64 (dG n l (B l 1)), .int .i64 (dG n l (B l 2)), .int .i64 (dG n l (B l 3)), .int .i64 (dG n l (dL l)), .slice a5 (dN n l) c6]) (vs' := [.int .i64 (dG n l (B l 1)), .int .i64 (dG n l (B l 2)), .int .i64 (dG n l (B l 3)), .int .i64 (dG n l (dL l)), .slice a5 (dN n l) c6]) hk hs rfl rfl rfl ty27 rfl rfl rfl rfl rfl rfl fun w hs => ?_
    refine q_val hk (w_as rfl) rfl rfl rfl fun a hk => ?_
    refine (c_end (x_t ?_))
    refine wpIn_seq ?_
    refine wpIn_region_lit ?_
    refine q_call (caps := []) hk rfl rfl Tryd.func9 fo9 rfl rfl (alive19_c _ (HL.step hs.toBelow) (HS.step hs.toBelow)) ?_
    rintro _ w ⟨rfl, hb⟩
    have hs := hs.below hb
    refine ⟨_, rfl, fun a hk => ?_⟩
    refine q_val hk (w_mv rfl) rfl rfl rfl fun a hk => ?_
    refine q_val hk (w_ldA rfl ty27 (.blk (n := 5) (hs.mi 2 rfl) rfl) rfl) rfl rfl rfl fun a hk => ?_
    refine q_bsl (els := [.tmp 23]) (cs := [.int .i64 (dG n l (B l 1)), .int .i64 (dG n l (B l 2)), .int .i64 (dG n l (B l 3)), .int .i64 (dG n l (dL l)), .slice a2 (dN n l) c3]) hk hs rfl Tryd.underlying41 ty27 zr27 rfl rfl rfl rfl rfl rfl rfl fun b8 w a hk hs => ?_
    refine q_val hk (w_ldA rfl ty27 (.blk (n := 5) (hs.mi 1 rfl) rfl) rfl) rfl rfl rfl fun a hk => ?_
    refine q_bsl (els := [.tmp 25]) (cs := [.int .i64 (dG n l (B l 1)), .int .i64 (dG n l (B l 2)), .int .i64 (dG n l (B l 3)), .int .i64 (dG n l (dL l)), .slice a5 (dN n l) c6]) hk hs rfl Tryd.underlying41 ty27 zr27 rfl rfl rfl rfl rfl rfl rfl fun b9 w a hk hs => ?_
    refine q_call (caps := []) hk rfl rfl Tryd.func18 fo18 rfl rfl (same1_c b8 b9 _ _ _ _ _ _ _ _ _ _ _ (hs.mi 1 rfl) (hs.mi 0 rfl) (row_lst (hs.mi 5 rfl)) (row_lst (hs.mi 3 rfl)) (fun i _ => RR_lt4 _ _) (by omega)) ?_
    rintro _ w ⟨rfl, hb⟩
    have hs := hs.below hb
    refine ⟨_, rfl, fun a hk => ?_⟩
    refine q_val hk (w_pickT rfl rfl) rfl rfl rfl fun a hk => ?_
    refine q_val hk (w_mv rfl) rfl rfl rfl fun a hk => ?_
    refine q_val hk (w_mv rfl) rfl rfl rfl fun a hk => ?_
    refine q_val hk (w_mv rfl) rfl rfl rfl fun a hk => ?_
    refine q_val hk (w_eq rfl rfl (decide_eq_true rfl)) rfl rfl rfl fun a hk => ?_
    refine q_val hk (w_pickT rfl rfl) rfl rfl rfl fun a hk => ?_
    refine q_val hk (w_as rfl) rfl rfl rfl fun a hk => ?_
    refine (c_end (x_t ?_))
    refine (wpIn_ret ?_)
    refine c_ret1 hk rfl rfl ?_
    exact ⟨rfl, hs.toBelow⟩
theorem lawRT_bad (F T I L : Int) (la : Option Addr) (n lc : Nat) (X : Nat → Nat) (W : World) (HX : LstAt W 4 (.slice la n lc) n (en vq X n)) (H4 : ∀ i, i < n → X i < R4) (HL : Laid W) (HS : Sh.Laid W) (h : 40 < n ∨ shErr F T I L n X ≠ 0) : Calls Tryd.prog 6 [.agg #[.int .i64 F, .int .i64 T, .int .i64 I, .int .i64 L, .slice la n lc]].toArray W fun e w => e = .returned (.bool true) ∧ Below W.heap.size W w := by
  refine c_enter (args := [.agg #[.int .i64 F, .int .i64 T, .int .i64 I, .int .i64 L, .slice la n lc]]) Tryd.func6 rfl rfl rfl fun a hk => ?_
  have hs := Sat.start W [lst 4 (.slice la n lc) n (en vq X n)] (okr1 HX)
  refine wpIn_seq ?_
  refine wpIn_region_lit ?_
  refine q_box (vs := [.int .i64 F, .int .i64 T, .int .i64 I, .int .i64 L, .slice la n lc]) hk hs rfl rfl rfl rfl fun b1 w a hk hs => ?_
  refine q_val hk (w_as rfl) rfl rfl rfl fun a hk => ?_
  refine (c_end (x_t ?_))
  refine wpIn_seq ?_
  refine wpIn_seq ?_
  refine wpIn_region_lit ?_
  refine q_val hk (w_ldA rfl ty27 (.blk (n := 5) (hs.mi 0 rfl) rfl) rfl) rfl rfl rfl fun a hk => ?_
  rcases Classical.em (40 < n) with hc2 | hc2
  · skip
    refine q_call (caps := []) hk rfl rfl Tryd.func12 fo12 rfl rfl (large_t _ _ _ _ _ _ _ hc2 _) ?_
    rintro _ w ⟨rfl, hb⟩
    have hs := hs.below hb
    refine ⟨_, rfl, fun a hk => ?_⟩
    refine q_val hk (w_mv rfl) rfl rfl rfl fun a hk => ?_
    refine q_skip hk rfl rfl fun a hk => ?_
    refine q_skip hk rfl rfl fun a hk => ?_
    refine q_skip hk rfl rfl fun a hk => ?_
    refine q_val hk (w_pickT rfl rfl) rfl rfl rfl fun a hk => ?_
    refine (c_end (x_t ?_))
    refine c_T hk rfl ?_
    refine wpIn_seq ?_
    refine wpIn_region_lit ?_
    refine q_call (caps := []) hk rfl rfl Tryd.func9 fo9 rfl rfl (alive19_c _ (HL.step hs.toBelow) (HS.step hs.toBelow)) ?_
    rintro _ w ⟨rfl, hb⟩
    have hs := hs.below hb
    refine ⟨_, rfl, fun a hk => ?_⟩
    refine q_val hk (w_as rfl) rfl rfl rfl fun a hk => ?_
    refine (c_end (x_t ?_))
    refine (wpIn_ret (x_tr ?_))
    refine c_ret1 hk rfl rfl ?_
    exact ⟨rfl, hs.toBelow⟩
  · skip
    refine q_call (caps := []) hk rfl rfl Tryd.func12 fo12 rfl rfl (large_f _ _ _ _ _ _ _ hc2 _) ?_
    rintro _ w ⟨rfl, hb⟩
    have hs := hs.below hb
    refine ⟨_, rfl, fun a hk => ?_⟩
    refine q_val hk (w_mv rfl) rfl rfl rfl fun a hk => ?_
    refine q_val hk (w_ldA rfl ty27 (.blk (n := 5) (hs.mi 0 rfl) rfl) rfl) rfl rfl rfl fun a hk => ?_
    refine q_call (caps := []) hk rfl rfl Tryd.func19 fo19 rfl rfl (refCkShare_c F T I L _ _ _ X _ (hs.ri 0 rfl) (by omega) H4) ?_
    rintro _ w ⟨rfl, hb⟩
    have hs := hs.below hb
    refine ⟨_, rfl, fun a hk => ?_⟩
    rcases Classical.em ((shErr F T I L n X) ≠ 0) with hc3 | hc3
    · skip
      refine q_val hk (w_ne rfl rfl (decide_eq_true hc3)) rfl rfl rfl fun a hk => ?_
      refine q_val hk (w_pickF rfl rfl) rfl rfl rfl fun a hk => ?_
      refine (c_end (x_t ?_))
      refine c_T hk rfl ?_
      refine wpIn_seq ?_
      refine wpIn_region_lit ?_
      refine q_call (caps := []) hk rfl rfl Tryd.func9 fo9 rfl rfl (alive19_c _ (HL.step hs.toBelow) (HS.step hs.toBelow)) ?_
      rintro _ w ⟨rfl, hb⟩
      have hs := hs.below hb
      refine ⟨_, rfl, fun a hk => ?_⟩
      refine q_val hk (w_as rfl) rfl rfl rfl fun a hk => ?_
      refine (c_end (x_t ?_))
      refine (wpIn_ret (x_tr ?_))
      refine c_ret1 hk rfl rfl ?_
      exact ⟨rfl, hs.toBelow⟩
    · skip
      exfalso; rcases h with h | h <;> contradiction
theorem lawRT_ok (s : Bool) (T I L : Int) (la : Option Addr) (n lc : Nat) (X : Nat → Nat) (W : World) (HX : LstAt W 4 (.slice la n lc) n (en vq X n)) (H4 : ∀ i, i < n → X i < R4) (HL : Laid W) (HS : Sh.Laid W) (hG : GoodS s T I L n X) (h40 : n ≤ 40) : Calls Tryd.prog 6 [.agg #[.int .i64 (fid s), .int .i64 T, .int .i64 I, .int .i64 L, .slice la n lc]].toArray W fun e w => e = .returned (.bool true) ∧ Below W.heap.size W w := by
  have hsz : ((38 + 32 * n : Nat) : Int) = rsz L := by unfold rsz; rw [if_pos hG.hL, ← hG.hn]; omega
  refine c_enter (args := [.agg #[.int .i64 (fid s), .int .i64 T, .int .i64 I, .int .i64 L, .slice la n lc]]) Tryd.func6 rfl rfl rfl fun a hk => ?_
  have hs := Sat.start W [lst 4 (.slice la n lc) n (en vq X n)] (okr1 HX)
  refine wpIn_seq ?_
  refine wpIn_region_lit ?_
  refine q_box (vs := [.int .i64 (fid s), .int .i64 T, .int .i64 I, .int .i64 L, .slice la n lc]) hk hs rfl rfl rfl rfl fun b1 w a hk hs => ?_
  refine q_val hk (w_as rfl) rfl rfl rfl fun a hk => ?_
  refine (c_end (x_t ?_))
  refine wpIn_seq ?_
  refine wpIn_seq ?_
  refine wpIn_region_lit ?_
  refine q_val hk (w_ldA rfl ty27 (.blk (n := 5) (hs.mi 0 rfl) rfl) rfl) rfl rfl rfl fun a hk => ?_
  refine q_call (caps := []) hk rfl rfl Tryd.func12 fo12 rfl rfl (large_f _ _ _ _ _ _ _ (by omega) _) ?_
  rintro _ w ⟨rfl, hb⟩
  have hs := hs.below hb
  refine ⟨_, rfl, fun a hk => ?_⟩
  refine q_val hk (w_mv rfl) rfl rfl rfl fun a hk => ?_
  refine q_val hk (w_ldA rfl ty27 (.blk (n := 5) (hs.mi 0 rfl) rfl) rfl) rfl rfl rfl fun a hk => ?_
  refine q_call (caps := []) hk rfl rfl Tryd.func19 fo19 rfl rfl (refCkShare_c (fid s) T I L _ _ _ X _ (hs.ri 0 rfl) (by omega) H4) ?_
  rintro _ w ⟨rfl, hb⟩
  have hs := hs.below hb
  refine ⟨_, rfl, fun a hk => ?_⟩
  refine q_val hk (w_ne rfl rfl (decide_eq_false (fun h => h hG.err))) rfl rfl rfl fun a hk => ?_
  refine q_val hk (w_pickF rfl rfl) rfl rfl rfl fun a hk => ?_
  refine (c_end (x_t ?_))
  refine c_F hk rfl ?_
  refine (wpIn_skip (x_t ?_))
  refine wpIn_seq ?_
  refine wpIn_region_lit ?_
  refine q_val hk (w_ldA rfl ty27 (.blk (n := 5) (hs.mi 0 rfl) rfl) rfl) rfl rfl rfl fun a hk => ?_
  refine q_call (caps := []) hk rfl rfl Tryd.func13 fo13 rfl rfl (encGood hG _ _ _ (hs.ri 0 rfl) (HL.step hs.toBelow) (HS.step hs.toBelow)) ?_
  rintro _ w ⟨a2, c3, rfl, hS⟩
  have hs := hs.call1 hS
  clear hS
  refine ⟨_, rfl, fun a hk => ?_⟩
  refine q_val hk (w_mv rfl) rfl rfl rfl fun a hk => ?_
  refine q_val hk (w_ext rfl rfl) rfl rfl rfl fun a hk => ?_
  refine q_val hk (w_ext rfl rfl) rfl rfl rfl fun a hk => ?_
  refine q_val hk (w_as rfl) rfl rfl rfl fun a hk => ?_
  refine q_val hk (w_as rfl) rfl rfl rfl fun a hk => ?_
  refine (c_end (x_t ?_))
  refine wpIn_seq ?_
  refine wpIn_region_lit ?_
  refine q_val hk (w_mv rfl) rfl rfl rfl fun a hk => ?_
  refine q_call (caps := []) hk rfl rfl Tryd.func16 fo16 rfl rfl (decGood hG _ _ _ rfl _ (row_lst (hs.mi 0 rfl)) (HL.step hs.toBelow) (HS.step hs.toBelow)) ?_
  rintro _ w ⟨a4, c5, rfl, hS⟩
  have hs := hs.call1 hS
  clear hS
  refine ⟨_, rfl, fun a hk => ?_⟩
  refine q_val hk (w_mv rfl) rfl rfl rfl fun a hk => ?_
  refine q_val hk (w_ext rfl rfl) rfl rfl rfl fun a hk => ?_
  refine q_val hk (w_ext rfl rfl) rfl rfl rfl fun a hk => ?_
  refine q_alc (vs := [.int .i64 0, .int .i64 0, .int .i64 0, .int .i64 0, .slice none 0 0]) hk hs zr27 rfl rfl rfl fun b6 w a hk hs => ?_
  refine q_sto (o := 0) (cs := [.int .i64 (fid s), .int .i64 T, .int .i64 I, .int .i64 L, .slice a4 n c5]) (vs' := [.int .i64 (fid s), .int .i64 T, .int .i64 I, .int .i64 L, .slice a4 n c5]) hk hs rfl rfl rfl ty27 rfl rfl rfl rfl rfl rfl fun w hs => ?_
  refine q_val hk (w_as rfl) rfl rfl rfl fun a hk => ?_
  refine (c_end (x_t ?_))
  refine wpIn_seq ?_
  refine wpIn_region_lit ?_
  refine q_call (caps := []) hk rfl rfl Tryd.func9 fo9 rfl rfl (alive19_c _ (HL.step hs.toBelow) (HS.step hs.toBelow)) ?_
  rintro _ w ⟨rfl, hb⟩
  have hs := hs.below hb
  refine ⟨_, rfl, fun a hk => ?_⟩
  refine q_val hk (w_mv rfl) rfl rfl rfl fun a hk => ?_
  refine q_val hk (w_mv rfl) rfl rfl rfl fun a hk => ?_
  refine q_val hk (w_eq rfl rfl (decide_eq_true (by decide))) rfl rfl rfl fun a hk => ?_
  refine q_val hk (w_pickT rfl rfl) rfl rfl rfl fun a hk => ?_
  refine q_val hk (w_mv rfl) rfl rfl rfl fun a hk => ?_
  refine q_val hk (w_mv rfl) rfl rfl rfl fun a hk => ?_
  refine q_val hk (w_eq rfl rfl (decide_eq_true (by decide))) rfl rfl rfl fun a hk => ?_
  refine q_val hk (w_pickT rfl rfl) rfl rfl rfl fun a hk => ?_
  refine q_val hk (w_mv rfl) rfl rfl rfl fun a hk => ?_
  refine q_val hk (w_ldA rfl ty27 (.blk (n := 5) (hs.mi 0 rfl) rfl) rfl) rfl rfl rfl fun a hk => ?_
  refine q_bsl (els := [.tmp 35]) (cs := [.int .i64 (fid s), .int .i64 T, .int .i64 I, .int .i64 L, .slice a4 n c5]) hk hs rfl Tryd.underlying41 ty27 zr27 rfl rfl rfl rfl rfl rfl rfl fun b7 w a hk hs => ?_
  refine q_val hk (w_ldA rfl ty27 (.blk (n := 5) (hs.mi 4 rfl) rfl) rfl) rfl rfl rfl fun a hk => ?_
  refine q_bsl (els := [.tmp 37]) (cs := [.int .i64 (fid s), .int .i64 T, .int .i64 I, .int .i64 L, .slice la n lc]) hk hs rfl Tryd.underlying41 ty27 zr27 rfl rfl rfl rfl rfl rfl rfl fun b8 w a hk hs => ?_
  refine q_call (caps := []) hk rfl rfl Tryd.func18 fo18 rfl rfl (same1_c b7 b8 _ _ _ _ _ _ _ _ _ _ _ (hs.mi 1 rfl) (hs.mi 0 rfl) (row_lst (hs.mi 3 rfl)) (hs.ri 0 rfl) H4 (by omega)) ?_
  rintro _ w ⟨rfl, hb⟩
  have hs := hs.below hb
  refine ⟨_, rfl, fun a hk => ?_⟩
  refine q_val hk (w_pickT rfl rfl) rfl rfl rfl fun a hk => ?_
  refine q_val hk (w_mv rfl) rfl rfl rfl fun a hk => ?_
  refine q_val hk (w_mv rfl) rfl rfl rfl fun a hk => ?_
  refine q_val hk (w_len rfl Tryd.underlying29) rfl rfl rfl fun a hk => ?_
  refine q_val hk (w_fa rfl fq27_3 ty3) rfl rfl rfl fun a hk => ?_
  refine q_val hk (w_ld1 rfl ty3 (.blk (n := 1) (hs.mi 5 rfl) rfl)) rfl rfl rfl fun a hk => ?_
  refine q_call (caps := []) hk rfl rfl Tryd.func10 fo10 rfl rfl (size_c L _) ?_
  rintro _ w ⟨rfl, hb⟩
  have hs := hs.below hb
  refine ⟨_, rfl, fun a hk => ?_⟩
  refine q_val hk (w_eq rfl rfl (decide_eq_true hsz)) rfl rfl rfl fun a hk => ?_
  refine q_val hk (w_pickT rfl rfl) rfl rfl rfl fun a hk => ?_
  refine q_val hk (w_as rfl) rfl rfl rfl fun a hk => ?_
  refine (c_end (x_t ?_))
  refine (wpIn_ret ?_)
  refine c_ret1 hk rfl rfl ?_
  exact ⟨rfl, hs.toBelow⟩
theorem lawCanon_bad (la : Option Addr) (n lc : Nat) (l : List Nat) (W : World) (H : LstAt W 1 (.slice la n lc) n (el bc l)) (hl : ∀ x ∈ l, x < 256) (HL : Laid W) (HS : Sh.Laid W) (h : dErr n l ≠ 0) : Calls Tryd.prog 7 [.slice la n lc].toArray W fun e w => e = .returned (.bool true) ∧ Below W.heap.size W w := by
  refine c_enter (args := [.slice la n lc]) Tryd.func7 rfl rfl rfl fun a hk => ?_
  have hs := Sat.start W [lst 1 (.slice la n lc) n (el bc l)] (okr1 H)
  refine wpIn_seq ?_
  refine wpIn_region_lit ?_
  refine q_val hk (w_as rfl) rfl rfl rfl fun a hk => ?_
  refine (c_end (x_t ?_))
  refine wpIn_seq ?_
  refine wpIn_seq ?_
  refine wpIn_region_lit ?_
  refine q_val hk (w_mv rfl) rfl rfl rfl fun a hk => ?_
  refine q_val hk (w_len rfl Tryd.underlying29) rfl rfl rfl fun a hk => ?_
  rcases Classical.em (1500 < ((n : Nat) : Int)) with hc1 | hc1
  · skip
    refine q_val hk (w_gt rfl rfl (decide_eq_true hc1)) rfl rfl rfl fun a hk => ?_
    refine (c_end (x_t ?_))
    refine c_T hk rfl ?_
    refine wpIn_seq ?_
    refine wpIn_region_lit ?_
    refine q_call (caps := []) hk rfl rfl Tryd.func9 fo9 rfl rfl (alive19_c _ (HL.step hs.toBelow) (HS.step hs.toBelow)) ?_
    rintro _ w ⟨rfl, hb⟩
    have hs := hs.below hb
    refine ⟨_, rfl, fun a hk => ?_⟩
    refine q_val hk (w_as rfl) rfl rfl rfl fun a hk => ?_
    refine (c_end (x_t ?_))
    refine (wpIn_ret (x_tr ?_))
    refine c_ret1 hk rfl rfl ?_
    exact ⟨rfl, hs.toBelow⟩
  · skip
    refine q_val hk (w_gt rfl rfl (decide_eq_false hc1)) rfl rfl rfl fun a hk => ?_
    refine (c_end (x_t ?_))
    refine c_F hk rfl ?_
    refine (wpIn_skip (x_t ?_))
    refine wpIn_seq ?_
    refine wpIn_region_lit ?_
    refine q_val hk (w_mv rfl) rfl rfl rfl fun a hk => ?_
    refine q_call (caps := []) hk rfl rfl Tryd.func16 fo16 rfl rfl ((recDec_c _ _ _ l _ (hs.ri 0 rfl) hl (by omega) (HL.step hs.toBelow) (HS.step hs.toBelow)).mono fun _ _ hq => decBad h hq) ?_
    rintro _ w ⟨a2, c3, rfl, hS⟩
    have hs := hs.call1 hS
    clear hS
    refine ⟨_, rfl, fun a hk => ?_⟩
    refine q_val hk (w_mv rfl) rfl rfl rfl fun a hk => ?_
    refine q_val hk (w_ext rfl rfl) rfl rfl rfl fun a hk => ?_
    refine q_val hk (w_ext rfl rfl) rfl rfl rfl fun a hk => ?_
    refine q_alc (vs := [.int .i64 0, .int .i64 0, .int .i64 0, .int .i64 0, .slice none 0 0]) hk hs zr27 rfl rfl rfl fun b4 w a hk hs => ?_
    refine q_sto (o := 0) (cs := [.int .i64 0, .int .i64 0, .int .i64 0, .int .i64 0, .slice a2 0 c3]) (vs' := [.int .i64 0, .int .i64 0, .int .i64 0, .int .i64 0, .slice a2 0 c3]) hk hs rfl rfl rfl ty27 rfl rfl rfl rfl rfl rfl fun w hs => ?_
    refine q_val hk (w_as rfl) rfl rfl rfl fun a hk => ?_
    refine (c_end (x_t ?_))
    refine wpIn_seq ?_
    refine wpIn_seq ?_
    refine wpIn_region_lit ?_
    refine q_val hk (w_mv rfl) rfl rfl rfl fun a hk => ?_
    refine q_val hk (w_ne rfl rfl (decide_eq_true h)) rfl rfl rfl fun a hk => ?_
    refine (c_end (x_t ?_))
    refine c_T hk rfl ?_
    refine wpIn_seq ?_
    refine wpIn_region_lit ?_
    refine q_call (caps := []) hk rfl rfl Tryd.func9 fo9 rfl rfl (alive19_c _ (HL.step hs.toBelow) (HS.step hs.toBelow)) ?_
    rintro _ w ⟨rfl, hb⟩
    have hs := hs.below hb
    refine ⟨_, rfl, fun a hk => ?_⟩
    refine q_val hk (w_mv rfl) rfl rfl rfl fun a hk => ?_
    refine q_val hk (w_ldA rfl ty27 (.blk (n := 5) (hs.mi 0 rfl) rfl) rfl) rfl rfl rfl fun a hk => ?_
    refine q_bsl (els := [.tmp 20]) (cs := [.int .i64 0, .int .i64 0, .int .i64 0, .int .i64 0, .slice a2 0 c3]) hk hs rfl Tryd.underlying41 ty27 zr27 rfl rfl rfl rfl rfl rfl rfl fun b5 w a hk hs => ?_
    refine q_val hk (w_bld rfl fl27 zr27 rfl rfl) rfl rfl rfl fun a hk => ?_
    refine q_bsl (els := [.tmp 22]) (cs := [.int .i64 0, .int .i64 0, .int .i64 0, .int .i64 0, .slice none 0 0]) hk hs rfl Tryd.underlying41 ty27 zr27 rfl rfl rfl rfl rfl rfl rfl fun b6 w a hk hs => ?_
    refine q_call (caps := []) hk rfl rfl Tryd.func18 fo18 rfl rfl (same1_c b5 b6 _ _ _ _ _ _ _ _ _ _ _ (hs.mi 1 rfl) (hs.mi 0 rfl) (row_lst (hs.mi 3 rfl)) (lst0 (fun _ => rfl)) (fun i hi => absurd hi (Nat.not_lt_zero i)) (by omega)) ?_
    rintro _ w ⟨rfl, hb⟩
    have hs := hs.below hb
    refine ⟨_, rfl, fun a hk => ?_⟩
    refine q_val hk (w_pickT rfl rfl) rfl rfl rfl fun a hk => ?_
    refine q_val hk (w_as rfl) rfl rfl rfl fun a hk => ?_
    refine (c_end (x_t ?_))
    refine (wpIn_ret (x_tr ?_))
    refine c_ret1 hk rfl rfl ?_
    exact ⟨rfl, hs.toBelow⟩
theorem lawCanon_ok (la : Option Addr) (n lc : Nat) (l : List Nat) (W : World) (H : LstAt W 1 (.slice la n lc) n (el bc l)) (hl : ∀ x ∈ l, x < 256) (HL : Laid W) (HS : Sh.Laid W) (h : dErr n l = 0) : Calls Tryd.prog 7 [.slice la n lc].toArray W fun e w => e = .returned (.bool true) ∧ Below W.heap.size W w := by
  have hlen := lst_num H
  have hcn := cn_small (dL l)
  refine c_enter (args := [.slice la n lc]) Tryd.func7 rfl rfl rfl fun a hk => ?_
  have hs := Sat.start W [lst 1 (.slice la n lc) n (el bc l)] (okr1 H)
  refine wpIn_seq ?_
  refine wpIn_region_lit ?_
  refine q_val hk (w_as rfl) rfl rfl rfl fun a hk => ?_
  refine (c_end (x_t ?_))
  refine wpIn_seq ?_
  refine wpIn_seq ?_
  refine wpIn_region_lit ?_
  refine q_val hk (w_mv rfl) rfl rfl rfl fun a hk => ?_
  refine q_val hk (w_len rfl Tryd.underlying29) rfl rfl rfl fun a hk => ?_
  rcases Classical.em (1500 < ((n : Nat) : Int)) with hc1 | hc1
  · skip
    refine q_val hk (w_gt rfl rfl (decide_eq_true hc1)) rfl rfl rfl fun a hk => ?_
    refine (c_end (x_t ?_))
    refine c_T hk rfl ?_
    refine wpIn_seq ?_
    refine wpIn_region_lit ?_
    refine q_call (caps := []) hk rfl rfl Tryd.func9 fo9 rfl rfl (alive19_c _ (HL.step hs.toBelow) (HS.step hs.toBelow)) ?_
    rintro _ w ⟨rfl, hb⟩
    have hs := hs.below hb
    refine ⟨_, rfl, fun a hk => ?_⟩
    refine q_val hk (w_as rfl) rfl rfl rfl fun a hk => ?_
    refine (c_end (x_t ?_))
    refine (wpIn_ret (x_tr ?_))
    refine c_ret1 hk rfl rfl ?_
    exact ⟨rfl, hs.toBelow⟩
  · skip
    refine q_val hk (w_gt rfl rfl (decide_eq_false hc1)) rfl rfl rfl fun a hk => ?_
    refine (c_end (x_t ?_))
    refine c_F hk rfl ?_
    refine (wpIn_skip (x_t ?_))
    refine wpIn_seq ?_
    refine wpIn_region_lit ?_
    refine q_val hk (w_mv rfl) rfl rfl rfl fun a hk => ?_
    refine q_call (caps := []) hk rfl rfl Tryd.func16 fo16 rfl rfl ((recDec_c _ _ _ l _ (hs.ri 0 rfl) hl (by omega) (HL.step hs.toBelow) (HS.step hs.toBelow)).mono fun _ _ hq => decOk h hq) ?_
    rintro _ w ⟨a2, c3, rfl, hS⟩
    have hs := hs.call1 hS
    clear hS
    refine ⟨_, rfl, fun a hk => ?_⟩
    refine q_val hk (w_mv rfl) rfl rfl rfl fun a hk => ?_
    refine q_val hk (w_ext rfl rfl) rfl rfl rfl fun a hk => ?_
    refine q_val hk (w_ext rfl rfl) rfl rfl rfl fun a hk => ?_
    refine q_alc (vs := [.int .i64 0, .int .i64 0, .int .i64 0, .int .i64 0, .slice none 0 0]) hk hs zr27 rfl rfl rfl fun b4 w a hk hs => ?_
    refine q_sto (o := 0) (cs := [.int .i64 (B l 1), .int .i64 (B l 2), .int .i64 (B l 3), .int .i64 (dL l), .slice a2 (cn (dL l)) c3]) (vs' := [.int .i64 (B l 1), .int .i64 (B l 2), .int .i64 (B l 3), .int .i64 (dL l), .slice a2 (cn (dL l)) c3]) hk hs rfl rfl rfl ty27 rfl rfl rfl rfl rfl rfl fun w hs => ?_
    refine q_val hk (w_as rfl) rfl rfl rfl fun a hk => ?_
    refine (c_end (x_t ?_))
    refine wpIn_seq ?_
    refine wpIn_seq ?_
    refine wpIn_region_lit ?_
    refine q_val hk (w_mv rfl) rfl rfl rfl fun a hk => ?_
    refine q_val hk (w_ne rfl rfl (decide_eq_false (by decide))) rfl rfl rfl fun a hk => ?_
    refine (c_end (x_t ?_))
    refine c_F hk rfl ?_
    refine (wpIn_skip (x_t ?_))
    refine wpIn_seq ?_
    refine wpIn_region_lit ?_
    refine q_val hk (w_ldA rfl ty27 (.blk (n := 5) (hs.mi 0 rfl) rfl) rfl) rfl rfl rfl fun a hk => ?_
    refine q_call (caps := []) hk rfl rfl Tryd.func13 fo13 rfl rfl (canonGood hlen hl h _ _ _ (row_lst (hs.mi 1 rfl)) (HL.step hs.toBelow) (HS.step hs.toBelow)) ?_
    rintro _ w ⟨a5, c6, rfl, hS⟩
    have hs := hs.call1 hS
    clear hS
    refine ⟨_, rfl, fun a hk => ?_⟩
    refine q_val hk (w_mv rfl) rfl rfl rfl fun a hk => ?_
    refine q_val hk (w_ext rfl rfl) rfl rfl rfl fun a hk => ?_
    refine q_val hk (w_ext rfl rfl) rfl rfl rfl fun a hk => ?_
    refine q_val hk (w_as rfl) rfl rfl rfl fun a hk => ?_
    refine q_val hk (w_as rfl) rfl rfl rfl fun a hk => ?_
    refine (c_end (x_t ?_))
    refine wpIn_seq ?_
    refine wpIn_region_lit ?_
    refine q_call (caps := []) hk rfl rfl Tryd.func9 fo9 rfl rfl (alive19_c _ (HL.step hs.toBelow) (HS.step hs.toBelow)) ?_
    rintro _ w ⟨rfl, hb⟩
    have hs := hs.below hb
    refine ⟨_, rfl, fun a hk => ?_⟩
    refine q_val hk (w_mv rfl) rfl rfl rfl fun a hk => ?_
    refine q_val hk (w_mv rfl) rfl rfl rfl fun a hk => ?_
    refine q_val hk (w_eq rfl rfl (decide_eq_true (by decide))) rfl rfl rfl fun a hk => ?_
    refine q_val hk (w_pickT rfl rfl) rfl rfl rfl fun a hk => ?_
    refine q_val hk (w_mv rfl) rfl rfl rfl fun a hk => ?_
    refine q_val hk (w_mv rfl) rfl rfl rfl fun a hk => ?_
    refine q_val hk (w_mv rfl) rfl rfl rfl fun a hk => ?_
    refine q_call (caps := []) hk rfl rfl Tryd.func15 fo15 rfl rfl (bytesEqQ _ _ _ _ _ _ _ _ _ (hs.ri 0 rfl) (row_lst (hs.mi 0 rfl)) rfl) ?_
    rintro _ _ ⟨rfl, rfl⟩
    refine ⟨_, rfl, fun a hk => ?_⟩
    refine q_val hk (w_pickT rfl rfl) rfl rfl rfl fun a hk => ?_
    refine q_val hk (w_mv rfl) rfl rfl rfl fun a hk => ?_
    refine q_val hk (w_ldA rfl ty27 (.blk (n := 5) (hs.mi 1 rfl) rfl) rfl) rfl rfl rfl fun a hk => ?_
    refine q_call (caps := []) hk rfl rfl Tryd.func19 fo19 rfl rfl (refCkShare_c (B l 1) (B l 2) (B l 3) (dL l) _ _ _ (fun i => RR (dS l) (dv l i)) _ (row_lst (hs.mi 2 rfl)) (by omega) (fun i _ => RR_lt4 _ _)) ?_
    rintro _ w ⟨rfl, hb⟩
    have hs := hs.below hb
    refine ⟨_, rfl, fun a hk => ?_⟩
    refine q_val hk (w_eq rfl rfl (decide_eq_true (canon hlen hl h).1)) rfl rfl rfl fun a hk => ?_
    refine q_val hk (w_pickT rfl rfl) rfl rfl rfl fun a hk => ?_
    refine q_val hk (w_as rfl) rfl rfl rfl fun a hk => ?_
    refine (c_end (x_t ?_))
    refine (wpIn_ret ?_)
    refine c_ret1 hk rfl rfl ?_
    exact ⟨rfl, hs.toBelow⟩
theorem lawRT_c (F T I L : Int) (la : Option Addr) (n lc : Nat) (X : Nat → Nat) (W : World) (HX : LstAt W 4 (.slice la n lc) n (en vq X n)) (H4 : ∀ i, i < n → X i < R4) (HL : Laid W) (HS : Sh.Laid W) :
    Calls Tryd.prog 6 #[.agg #[.int .i64 F, .int .i64 T, .int .i64 I, .int .i64 L, .slice la n lc]] W fun e w => e = .returned (.bool true) ∧ Below W.heap.size W w := by
  by_cases h : 40 < n ∨ shErr F T I L n X ≠ 0
  · exact lawRT_bad F T I L la n lc X W HX H4 HL HS h
  · have h1 : n ≤ 40 := by omega
    have h2 : shErr F T I L n X = 0 := Classical.byContradiction fun e => h (.inr e)
    obtain ⟨hF | hF, _⟩ := shErr_zero h2
    · subst hF; exact lawRT_ok false T I L la n lc X W HX H4 HL HS (.of h2) h1
    · subst hF; exact lawRT_ok true T I L la n lc X W HX H4 HL HS (.of h2) h1
theorem lawCanon19_c (la : Option Addr) (n lc : Nat) (l : List Nat) (W : World) (H : LstAt W 1 (.slice la n lc) n (el bc l)) (hl : ∀ x ∈ l, x < 256) (HL : Laid W) (HS : Sh.Laid W) :
    Calls Tryd.prog 7 #[.slice la n lc] W fun e w => e = .returned (.bool true) ∧ Below W.heap.size W w := by
  by_cases h : dErr n l = 0
  · exact lawCanon_ok la n lc l W H hl HL HS h
  · exact lawCanon_bad la n lc l W H hl HL HS h
end Go.Proofs.YtjhfepkpfakemaaDoor
