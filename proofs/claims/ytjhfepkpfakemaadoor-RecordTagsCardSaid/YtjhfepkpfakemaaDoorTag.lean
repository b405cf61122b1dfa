/- slices.Concat of two slices; the bytes with their sum. -/
import Derived.Test.YtjhfepkpfakemaaDoorByt
namespace Go.Proofs.YtjhfepkpfakemaaDoor
set_option linter.all false
open Go Go.RowKit

theorem concat2_c (b0 : Nat) (la lb : Option Addr) (n lc m ld : Nat) (l l2 : List Nat) (W : World) (HB : (blk b0 [.slice la n lc, .slice lb m ld] 29).ok W) (H1 : LstAt W 1 (.slice la n lc) n (el bc l)) (H2 : LstAt W 1 (.slice lb m ld) m (el bc l2)) (h0 : 0 < n + m) (hn : n ≤ 1000000) (hm : m ≤ 1000000) : Calls Tryd.prog 47 [.slice (some ⟨b0, 0, none⟩) 2 2].toArray W fun e w => ∃ a c, e = .returned (.slice a (n + m) c) ∧ Sat no W [row 5 1 (.slice a (n + m) c) (n + m) (el bc (l ++ l2))] [] w := by
  refine c_enter (args := [.slice (some ⟨b0, 0, none⟩) 2 2]) Tryd.func47 rfl rfl rfl fun a hk => ?_
  have hs := Sat.start W [blk b0 [.slice la n lc, .slice lb m ld] 29, lst 1 (.slice la n lc) n (el bc l), lst 1 (.slice lb m ld) m (el bc l2)] (okrc HB (okrc H1 (okr1 H2)))
  refine wpIn_seq ?_
  refine wpIn_region_lit ?_
  refine q_val hk (w_as rfl) rfl rfl rfl fun a hk => ?_
  refine (c_end (x_t ?_))
  refine wpIn_seq ?_
  refine wpIn_region_lit ?_
  refine q_val hk (w_as rfl) rfl rfl rfl fun a hk => ?_
  refine (c_end (x_t ?_))
  refine wpIn_seq ?_
  refine wpIn_seq ?_
  refine wpIn_region_lit ?_
  refine q_val hk (w_mv rfl) rfl rfl rfl fun a hk => ?_
  refine q_val hk (w_len rfl Tryd.underlying87) rfl rfl rfl fun a hk => ?_
  refine q_val hk (w_mv rfl) rfl rfl rfl fun a hk => ?_
  refine (c_end (x_t ?_))
  refine wpIn_block ?_
  refine c_rounds 3 ?_
  refine c_rsucc ?_
  refine wpIn_seq ?_
  refine wpIn_region_lit ?_
  refine q_val hk (w_lt rfl rfl (decide_eq_true (by decide))) rfl rfl rfl fun a hk => ?_
  refine (c_end (x_t ?_))
  refine wpIn_seq ?_
  refine c_T hk rfl ?_
  refine (wpIn_skip (x_t ?_))
  refine wpIn_seq ?_
  refine wpIn_block ?_
  refine wpIn_seq ?_
  refine wpIn_region_lit ?_
  refine q_val hk (w_iaL (k := 0) rfl rfl Tryd.underlying87 ty29 (blk_lst (hs.ri 0 rfl) rfl (Nat.le_refl _)) (by omega) (by omega)) rfl rfl rfl fun a hk => ?_
  refine q_val hk (w_ld1 rfl ty29 (.blk (n := 1) (hs.ri 0 rfl) rfl)) rfl rfl rfl fun a hk => ?_
  refine q_val hk (w_as rfl) rfl rfl rfl fun a hk => ?_
  refine (c_end (x_t ?_))
  refine wpIn_seq ?_
  refine wpIn_region_lit ?_
  refine q_val hk (w_mv rfl) rfl rfl rfl fun a hk => ?_
  refine q_val hk (w_mv rfl) rfl rfl rfl fun a hk => ?_
  refine q_val hk (w_len rfl Tryd.underlying29) rfl rfl rfl fun a hk => ?_
  refine q_val hk (w_add rfl rfl (wr64 (by omega) (by omega))) rfl rfl rfl fun a hk => ?_
  refine q_val hk (w_as rfl) rfl rfl rfl fun a hk => ?_
  refine (c_end (x_t ?_))
  refine wpIn_seq ?_
  refine wpIn_region_lit ?_
  refine q_val hk (w_mv rfl) rfl rfl rfl fun a hk => ?_
  refine q_val hk (w_lt rfl rfl (decide_eq_false (by omega))) rfl rfl rfl fun a hk => ?_
  refine (c_end (x_t ?_))
  refine c_F hk rfl ?_
  refine (wpIn_skip (x_b (x_t ?_)))
  refine wpIn_region_lit ?_
  refine q_val hk (w_add (r := 1) rfl rfl (by decide)) rfl rfl rfl fun a hk => ?_
  refine q_val hk (w_mv rfl) rfl rfl rfl fun a hk => ?_
  refine (c_end (x_t ?_))
  refine c_rsucc ?_
  refine wpIn_seq ?_
  refine wpIn_region_lit ?_
  refine q_val hk (w_lt rfl rfl (decide_eq_true (by decide))) rfl rfl rfl fun a hk => ?_
  refine (c_end (x_t ?_))
  refine wpIn_seq ?_
  refine c_T hk rfl ?_
  refine (wpIn_skip (x_t ?_))
  refine wpIn_seq ?_
  refine wpIn_block ?_
  refine wpIn_seq ?_
  refine wpIn_region_lit ?_
  refine q_val hk (w_iaL (k := 1) rfl rfl Tryd.underlying87 ty29 (blk_lst (hs.ri 0 rfl) rfl (Nat.le_refl _)) (by omega) (by omega)) rfl rfl rfl fun a hk => ?_
  refine q_val hk (w_ld1 rfl ty29 (.blk (n := 1) (hs.ri 0 rfl) rfl)) rfl rfl rfl fun a hk => ?_
  refine q_val hk (w_as rfl) rfl rfl rfl fun a hk => ?_
  refine (c_end (x_t ?_))
  refine wpIn_seq ?_
  refine wpIn_region_lit ?_
  refine q_val hk (w_mv rfl) rfl rfl rfl fun a hk => ?_
  refine q_val hk (w_mv rfl) rfl rfl rfl fun a hk => ?_
  refine q_val hk (w_len rfl Tryd.underlying29) rfl rfl rfl fun a hk => ?_
  refine q_val hk (w_add rfl rfl (wr64 (by omega) (by omega))) rfl rfl rfl fun a hk => ?_
  refine q_val hk (w_as rfl) rfl rfl rfl fun a hk => ?_
  refine (c_end (x_t ?_))
  refine wpIn_seq ?_
  refine wpIn_region_lit ?_
  refine q_val hk (w_mv rfl) rfl rfl rfl fun a hk => ?_
  refine q_val hk (w_lt rfl rfl (decide_eq_false (by omega))) rfl rfl rfl fun a hk => ?_
  refine (c_end (x_t ?_))
  refine c_F hk rfl ?_
  refine (wpIn_skip (x_b (x_t ?_)))
  refine wpIn_region_lit ?_
  refine q_val hk (w_add (r := 2) rfl rfl (by decide)) rfl rfl rfl fun a hk => ?_
  refine q_val hk (w_mv rfl) rfl rfl rfl fun a hk => ?_
  refine (c_end (x_t ?_))
  refine c_rsucc ?_
  refine wpIn_seq ?_
  refine wpIn_region_lit ?_
  refine q_val hk (w_lt rfl rfl (decide_eq_false (by decide))) rfl rfl rfl fun a hk => ?_
  refine (c_end (x_t ?_))
  refine wpIn_seq ?_
  refine c_F hk rfl ?_
  refine (wpIn_exit (x_te (x_te (x_be ?_))))
  refine (x_t ?_)
  refine wpIn_seq ?_
  refine wpIn_region_lit ?_
  refine q_val hk (w_mv rfl) rfl rfl rfl fun a hk => ?_
  rw [show ((0 : Int) + ((n : Nat) : Int)) + ((m : Nat) : Int) = ((n + m : Nat) : Int) by omega] at hk
  refine q_call (caps := []) hk rfl rfl Tryd.func61 fo61 rfl rfl (grow0_c (n + m) (by omega) (by omega) _) ?_
  rintro _ w ⟨a1, c2, rfl, hS⟩
  have hs := hs.call1 hS
  clear hS
  refine ⟨_, rfl, fun a hk => ?_⟩
  refine q_val hk (w_as rfl) rfl rfl rfl fun a hk => ?_
  refine (c_end (x_t ?_))
  refine wpIn_seq ?_
  refine wpIn_seq ?_
  refine wpIn_region_lit ?_
  refine q_val hk (w_mv rfl) rfl rfl rfl fun a hk => ?_
  refine q_val hk (w_len rfl Tryd.underlying87) rfl rfl rfl fun a hk => ?_
  refine q_val hk (w_mv rfl) rfl rfl rfl fun a hk => ?_
  refine (c_end (x_t ?_))
  refine wpIn_block ?_
  refine c_rounds 3 ?_
  refine c_rsucc ?_
  refine wpIn_seq ?_
  refine wpIn_region_lit ?_
  refine q_val hk (w_lt rfl rfl (decide_eq_true (by decide))) rfl rfl rfl fun a hk => ?_
  refine (c_end (x_t ?_))
  refine wpIn_seq ?_
  refine c_T hk rfl ?_
  refine (wpIn_skip (x_t ?_))
  refine wpIn_seq ?_
  refine wpIn_block ?_
  refine wpIn_seq ?_
  refine wpIn_region_lit ?_
  refine q_val hk (w_iaL (k := 0) rfl rfl Tryd.underlying87 ty29 (blk_lst (hs.ri 0 rfl) rfl (Nat.le_refl _)) (by omega) (by omega)) rfl rfl rfl fun a hk => ?_
  refine q_val hk (w_ld1 rfl ty29 (.blk (n := 1) (hs.ri 0 rfl) rfl)) rfl rfl rfl fun a hk => ?_
  refine q_val hk (w_as rfl) rfl rfl rfl fun a hk => ?_
  refine (c_end (x_t ?_))
  refine wpIn_region_lit ?_
  refine q_val hk (w_mv rfl) rfl rfl rfl fun a hk => ?_
  refine q_val hk (w_mv rfl) rfl rfl rfl fun a hk => ?_
  refine q_appL (news := (el bc l)) (mm := n) hk hs rfl rfl Tryd.underlying29 ty5 zr5 rfl rfl (hs.ri 1 rfl)  (el_ones bc_ones) (by omega) (by omega) rfl rfl fun a3 c4 w a hk hs => ?_
  rw [Nat.zero_add n] at hk hs
  refine q_val hk (w_as rfl) rfl rfl rfl fun a hk => ?_
  refine (c_end (x_b (x_t ?_)))
  refine wpIn_region_lit ?_
  refine q_val hk (w_add (r := 1) rfl rfl (by decide)) rfl rfl rfl fun a hk => ?_
  refine q_val hk (w_mv rfl) rfl rfl rfl fun a hk => ?_
  refine (c_end (x_t ?_))
  refine c_rsucc ?_
  refine wpIn_seq ?_
  refine wpIn_region_lit ?_
  refine q_val hk (w_lt rfl rfl (decide_eq_true (by decide))) rfl rfl rfl fun a hk => ?_
  refine (c_end (x_t ?_))
  refine wpIn_seq ?_
  refine c_T hk rfl ?_
  refine (wpIn_skip (x_t ?_))
  refine wpIn_seq ?_
  refine wpIn_block ?_
  refine wpIn_seq ?_
  refine wpIn_region_lit ?_
  refine q_val hk (w_iaL (k := 1) rfl rfl Tryd.underlying87 ty29 (blk_lst (hs.ri 0 rfl) rfl (Nat.le_refl _)) (by omega) (by omega)) rfl rfl rfl fun a hk => ?_
  refine q_val hk (w_ld1 rfl ty29 (.blk (n := 1) (hs.ri 0 rfl) rfl)) rfl rfl rfl fun a hk => ?_
  refine q_val hk (w_as rfl) rfl rfl rfl fun a hk => ?_
  refine (c_end (x_t ?_))
  refine wpIn_region_lit ?_
  refine q_val hk (w_mv rfl) rfl rfl rfl fun a hk => ?_
  refine q_val hk (w_mv rfl) rfl rfl rfl fun a hk => ?_
  refine q_appL (news := (el bc l2)) (mm := m) hk hs rfl rfl Tryd.underlying29 ty5 zr5 rfl rfl (hs.ri 2 rfl)  (el_ones bc_ones) (by omega) (by omega) rfl rfl fun a5 c6 w a hk hs => ?_
  refine q_val hk (w_as rfl) rfl rfl rfl fun a hk => ?_
  refine (c_end (x_b (x_t ?_)))
  refine wpIn_region_lit ?_
  refine q_val hk (w_add (r := 2) rfl rfl (by decide)) rfl rfl rfl fun a hk => ?_
  refine q_val hk (w_mv rfl) rfl rfl rfl fun a hk => ?_
  refine (c_end (x_t ?_))
  refine c_rsucc ?_
  refine wpIn_seq ?_
  refine wpIn_region_lit ?_
  refine q_val hk (w_lt rfl rfl (decide_eq_false (by decide))) rfl rfl rfl fun a hk => ?_
  refine (c_end (x_t ?_))
  refine wpIn_seq ?_
  refine c_F hk rfl ?_
  refine (wpIn_exit (x_te (x_te (x_be ?_))))
  refine (x_t ?_)
  refine wpIn_seq ?_
  refine wpIn_region_lit ?_
  refine q_val hk (w_mv rfl) rfl rfl rfl fun a hk => ?_
  refine q_val hk (w_as rfl) rfl rfl rfl fun a hk => ?_
  refine (c_end (x_t ?_))
  refine (wpIn_ret ?_)
  refine c_ret1 hk rfl rfl ?_
  have hs := hs.rw0 (congrArg (fun q => row _ _ _ _ q) (show el bc [] ++ (el bc l) ++ (el bc l2) = el bc (l ++ l2) by simp [el]))
  exact ⟨_, _, rfl, hs.fin⟩
theorem take_lt {l : List Nat} (hl : ∀ x ∈ l, x < 256) (k : Nat) : ∀ x ∈ l.take k, x < 256 := fun x hx => hl x (List.mem_of_mem_take hx)
theorem tagged_c (la : Option Addr) (n lc : Nat) (l : List Nat) (W : World) (H : LstAt W 1 (.slice la n lc) n (el bc l)) (hl : ∀ x ∈ l, x < 256) (hn : n ≤ 100000) (HL : Sh.Laid W) : Calls Tryd.prog 30 [.slice la n lc].toArray W fun e w => ∃ a c, e = .returned (.slice a (n + 32) c) ∧ Sat no W [row 5 1 (.slice a (n + 32) c) (n + 32) (el bc (l ++ shaL l))] [] w := by
  refine c_enter (args := [.slice la n lc]) Tryd.func30 rfl rfl rfl fun a hk => ?_
  have hs := Sat.start W [lst 1 (.slice la n lc) n (el bc l)] (okr1 H)
  refine wpIn_seq ?_
  refine wpIn_region_lit ?_
  refine q_val hk (w_as rfl) rfl rfl rfl fun a hk => ?_
  refine (c_end (x_t ?_))
  refine wpIn_seq ?_
  refine wpIn_region_lit ?_
  refine q_val hk (w_mv rfl) rfl rfl rfl fun a hk => ?_
  refine q_call (caps := []) hk rfl rfl Tryd.func46 fo46 rfl rfl (shaQ _ _ _ l _ (hs.ri 0 rfl) hl (by omega) (HL.step hs.toBelow)) ?_
  rintro _ w ⟨rfl, hb⟩
  have hs := hs.below hb
  refine ⟨_, rfl, fun a hk => ?_⟩
  refine q_alc (vs := [.int .u8 0, .int .u8 0, .int .u8 0, .int .u8 0, .int .u8 0, .int .u8 0, .int .u8 0, .int .u8 0, .int .u8 0, .int .u8 0, .int .u8 0, .int .u8 0, .int .u8 0, .int .u8 0, .int .u8 0, .int .u8 0, .int .u8 0, .int .u8 0, .int .u8 0, .int .u8 0, .int .u8 0, .int .u8 0, .int .u8 0, .int .u8 0, .int .u8 0, .int .u8 0, .int .u8 0, .int .u8 0, .int .u8 0, .int .u8 0, .int .u8 0, .int .u8 0]) hk hs zr71 rfl rfl rfl fun b1 w a hk hs => ?_
  refine q_stoL (c := bc) (l := shaL l) hk hs rfl rfl rfl ty71 rfl (el_len bc_len) (el_ones bc_ones) (by kernel_rfl) rfl fun w hs => ?_
  refine (c_end (x_t ?_))
  refine wpIn_seq ?_
  refine wpIn_region_lit ?_
  refine q_val hk (w_mv rfl) rfl rfl rfl fun a hk => ?_
  refine q_val hk (w_slcA rfl Tryd.underlying71 ty5 rfl) rfl rfl rfl fun a hk => ?_
  refine q_bsl (els := [.tmp 6, .tmp 7]) (cs := [.slice la n lc, .slice (some ⟨b1, 0, none⟩) 32 32]) hk hs rfl Tryd.underlying87 ty29 zr29 rfl rfl rfl rfl rfl rfl rfl fun b2 w a hk hs => ?_
  refine q_call (caps := []) hk rfl rfl Tryd.func47 fo47 rfl rfl (concat2_c b2 _ _ _ _ _ _ _ _ _ (hs.mi 0 rfl) (hs.ri 0 rfl) (blk_lst (hs.mi 1 rfl) (el_len bc_len) (Nat.le_refl _)) (by omega) (by omega) (by omega)) ?_
  rintro _ w ⟨a3, c4, rfl, hS⟩
  have hs := hs.call1 hS
  clear hS
  refine ⟨_, rfl, fun a hk => ?_⟩
  refine q_val hk (w_as rfl) rfl rfl rfl fun a hk => ?_
  refine (c_end (x_t ?_))
  refine (wpIn_ret ?_)
  refine c_ret1 hk rfl rfl ?_
  have hs := hs.up1
  have hs := hs.drop
  have hs := hs.up1
  have hs := hs.drop
  exact ⟨_, _, rfl, hs.fin⟩
theorem refTagged_c (la : Option Addr) (n lc : Nat) (l : List Nat) (W : World) (H : LstAt W 1 (.slice la n lc) n (el bc l)) (hl : ∀ x ∈ l, x < 256) (hn : n ≤ 100000) : Calls Tryd.prog 34 [.slice la n lc].toArray W fun e w => ∃ a c, e = .returned (.slice a (n + 32) c) ∧ Sat no W [row 5 1 (.slice a (n + 32) c) (n + 32) (el bc (l ++ shaL l))] [] w := by
  refine c_enter (args := [.slice la n lc]) Tryd.func34 rfl rfl rfl fun a hk => ?_
  have hs := Sat.start W [lst 1 (.slice la n lc) n (el bc l)] (okr1 H)
  refine wpIn_seq ?_
  refine wpIn_region_lit ?_
  refine q_val hk (w_as rfl) rfl rfl rfl fun a hk => ?_
  refine (c_end (x_t ?_))
  refine wpIn_seq ?_
  refine wpIn_region_lit ?_
  refine q_val hk (w_mv rfl) rfl rfl rfl fun a hk => ?_
  refine q_call (caps := []) hk rfl rfl Tryd.func49 fo49 rfl rfl (refShaQ _ _ _ l _ (hs.ri 0 rfl) hl (by omega)) ?_
  rintro _ w ⟨rfl, hb⟩
  have hs := hs.below hb
  refine ⟨_, rfl, fun a hk => ?_⟩
  refine q_alc (vs := [.int .u8 0, .int .u8 0, .int .u8 0, .int .u8 0, .int .u8 0, .int .u8 0, .int .u8 0, .int .u8 0, .int .u8 0, .int .u8 0, .int .u8 0, .int .u8 0, .int .u8 0, .int .u8 0, .int .u8 0, .int .u8 0, .int .u8 0, .int .u8 0, .int .u8 0, .int .u8 0, .int .u8 0, .int .u8 0, .int .u8 0, .int .u8 0, .int .u8 0, .int .u8 0, .int .u8 0, .int .u8 0, .int .u8 0, .int .u8 0, .int .u8 0, .int .u8 0]) hk hs zr71 rfl rfl rfl fun b1 w a hk hs => ?_
  refine q_stoL (c := bc) (l := shaL l) hk hs rfl rfl rfl ty71 rfl (el_len bc_len) (el_ones bc_ones) (by kernel_rfl) rfl fun w hs => ?_
  refine (c_end (x_t ?_))
  refine wpIn_seq ?_
  refine d_begin _ 6 (by kernel_rfl) rfl hs okL.nil fun w hs hL => ?_
  refine d_v 1 2 hk hL rfl (by kernel_rfl) rfl rfl (fun w hL => w_mv rfl) fun a hk => ?_
  refine d_v 3 10 hk hL rfl (by kernel_rfl) rfl rfl (fun w hL => w_slcA rfl Tryd.underlying71 ty5 rfl) fun a hk => ?_
  refine d_1 0 11 rfl (by kernel_rfl) fun K hK => ?_
  refine q_bsl (els := []) (cs := []) hk hs rfl Tryd.underlying29 ty5 zr5 rfl rfl rfl rfl rfl rfl rfl fun b1_0 w a hk hs => ?_
  have hs := hs.toRow (xs := el bc ([])) (n := 0) (sz := 1) rfl (by rw [el_len bc_len]; rfl) (by omega)
  have hL : okL [] w := okL.nil
  refine c_end (x_t (hK _ _ hL ?_))
  clear hK K
  refine d_1 2 15 rfl (by kernel_rfl) fun K hK => ?_
  refine q_appL (news := (el bc l)) (mm := n) hk hs rfl rfl Tryd.underlying29 ty5 zr5 rfl rfl (hs.ri 0 rfl)  (el_ones bc_ones) (by omega) (by omega) rfl rfl fun a1_2 c1_2b w a hk hs => ?_
  rw [Nat.zero_add n] at hk hs
  have hL : okL [] w := okL.nil
  refine c_end (x_t (hK _ _ hL ?_))
  clear hK K
  refine d_1 4 31 rfl (by kernel_rfl) fun K hK => ?_
  refine q_appL (news := (el bc (shaL l))) (mm := 32) hk hs rfl rfl Tryd.underlying29 ty5 zr5 rfl rfl (blk_lst (hs.mi 1 rfl) (el_len bc_len) (Nat.le_refl _))  (el_ones bc_ones) (by omega) (by omega) rfl rfl fun a1_4 c1_4b w a hk hs => ?_
  have hL : okL [] w := okL.nil
  refine c_end (x_t (hK _ _ hL ?_))
  clear hK K
  refine d_v 5 63 hk hL rfl (by kernel_rfl) rfl rfl (fun w hL => w_as rfl) fun a hk => ?_
  refine d_end (by kernel_rfl) ?_
  refine (x_t ?_)
  refine (wpIn_ret ?_)
  refine c_ret1 hk rfl rfl ?_
  have hs := hs.up1
  have hs := hs.drop
  have hs := hs.rw0 (congrArg (fun q => row _ _ _ _ q) (show el bc [] ++ (el bc l) ++ (el bc (shaL l)) = el bc (l ++ shaL l) by simp [el]))
  exact ⟨_, _, rfl, hs.fin⟩
/-- What Retag says. -/
def tErr (n : Nat) : Int := if n < 32 then 8 else 0
def tB (n : Nat) (l : List Nat) : List Nat := if n < 32 then [] else l.take (n - 32) ++ shaL (l.take (n - 32))
theorem retag_c (la : Option Addr) (n lc : Nat) (l : List Nat) (W : World) (H : LstAt W 1 (.slice la n lc) n (el bc l)) (hl : ∀ x ∈ l, x < 256) (hn : n ≤ 100000) (HL : Sh.Laid W) : Calls Tryd.prog 21 [.slice la n lc].toArray W fun e w => ∃ a k c, e = .returned (.tuple #[.slice a k c, .int .i64 (tErr n)]) ∧ Sat no W [row 5 1 (.slice a k c) k (el bc (tB n l))] [] w := by
  have hcap := lst_cap H
  refine c_enter (args := [.slice la n lc]) Tryd.func21 rfl rfl rfl fun a hk => ?_
  have hs := Sat.start W [lst 1 (.slice la n lc) n (el bc l)] (okr1 H)
  refine wpIn_seq ?_
  refine wpIn_region_lit ?_
  refine q_val hk (w_as rfl) rfl rfl rfl fun a hk => ?_
  refine q_val hk (w_as rfl) rfl rfl rfl fun a hk => ?_
  refine (c_end (x_t ?_))
  refine wpIn_seq ?_
  refine wpIn_region_lit ?_
  refine q_val hk (w_mv rfl) rfl rfl rfl fun a hk => ?_
  refine q_val hk (w_len rfl Tryd.underlying29) rfl rfl rfl fun a hk => ?_
  refine q_val hk (w_sub rfl rfl (wr64 (by omega) (by omega))) rfl rfl rfl fun a hk => ?_
  refine q_val hk (w_as rfl) rfl rfl rfl fun a hk => ?_
  refine (c_end (x_t ?_))
  refine wpIn_seq ?_
  refine wpIn_seq ?_
  refine wpIn_region_lit ?_
  refine q_val hk (w_mv rfl) rfl rfl rfl fun a hk => ?_
  rcases Classical.em ((((n : Nat) : Int) - 32) < 0) with hc1 | hc1
  · skip
    refine q_val hk (w_lt rfl rfl (decide_eq_true hc1)) rfl rfl rfl fun a hk => ?_
    refine (c_end (x_t ?_))
    refine c_T hk rfl ?_
    refine wpIn_seq ?_
    refine wpIn_region_lit ?_
    refine q_val hk (w_as rfl) rfl rfl rfl fun a hk => ?_
    refine q_val hk (w_as rfl) rfl rfl rfl fun a hk => ?_
    refine (c_end (x_t ?_))
    refine (wpIn_ret (x_tr ?_))
    refine c_ret2 hk rfl rfl rfl ?_
    refine ⟨none, 0, 0, by unfold tErr; rw [if_pos (by omega)], ?_⟩
    unfold tB
    rw [if_pos (by omega)]
    exact (hs.row0 _ _).fin
  · skip
    refine q_val hk (w_lt rfl rfl (decide_eq_false hc1)) rfl rfl rfl fun a hk => ?_
    refine (c_end (x_t ?_))
    refine c_F hk rfl ?_
    refine (wpIn_skip (x_t ?_))
    refine wpIn_seq ?_
    refine wpIn_region_lit ?_
    refine q_val hk (w_mv rfl) rfl rfl rfl fun a hk => ?_
    refine q_val hk (w_mv rfl) rfl rfl rfl fun a hk => ?_
    refine q_val hk (w_slc (l := 0) (h := (n - 32)) rfl rfl rfl Tryd.underlying29 ty5 rfl rfl (by omega) (by omega) (by omega) (by omega) (by omega)) rfl rfl rfl fun a hk => ?_
    refine q_call (caps := []) hk rfl rfl Tryd.func30 fo30 rfl rfl (tagged_c _ (n - 32) _ (l.take (n - 32)) _ (subB (l := 0) (h := (n - 32)) (m := lc) (hs.ri 0 rfl) (by omega) (by omega) (by omega) (by omega)) (take_lt hl _) (by omega) (HL.step hs.toBelow)) ?_
    rintro _ w ⟨a2, c3, rfl, hS⟩
    have hs := hs.call1 hS
    clear hS
    refine ⟨_, rfl, fun a hk => ?_⟩
    refine q_val hk (w_as rfl) rfl rfl rfl fun a hk => ?_
    refine q_val hk (w_as rfl) rfl rfl rfl fun a hk => ?_
    refine (c_end (x_t ?_))
    refine (wpIn_ret ?_)
    refine c_ret2 hk rfl rfl rfl ?_
    refine ⟨a2, (n - 32 + 32), c3, by unfold tErr; rw [if_neg (by omega)], ?_⟩
    unfold tB
    rw [if_neg (by omega)]
    exact hs.fin
theorem refRetag_c (la : Option Addr) (n lc : Nat) (l : List Nat) (W : World) (H : LstAt W 1 (.slice la n lc) n (el bc l)) (hl : ∀ x ∈ l, x < 256) (hn : n ≤ 100000) : Calls Tryd.prog 22 [.slice la n lc].toArray W fun e w => ∃ a k c, e = .returned (.tuple #[.slice a k c, .int .i64 (tErr n)]) ∧ Sat no W [row 5 1 (.slice a k c) k (el bc (tB n l))] [] w := by
  have hcap := lst_cap H
  refine c_enter (args := [.slice la n lc]) Tryd.func22 rfl rfl rfl fun a hk => ?_
  have hs := Sat.start W [lst 1 (.slice la n lc) n (el bc l)] (okr1 H)
  refine wpIn_seq ?_
  refine wpIn_region_lit ?_
  refine q_val hk (w_as rfl) rfl rfl rfl fun a hk => ?_
  refine q_val hk (w_as rfl) rfl rfl rfl fun a hk => ?_
  refine (c_end (x_t ?_))
  refine wpIn_seq ?_
  refine wpIn_seq ?_
  refine wpIn_region_lit ?_
  refine q_val hk (w_mv rfl) rfl rfl rfl fun a hk => ?_
  refine q_val hk (w_len rfl Tryd.underlying29) rfl rfl rfl fun a hk => ?_
  rcases Classical.em (((n : Nat) : Int) < 32) with hc1 | hc1
  · skip
    refine q_val hk (w_lt rfl rfl (decide_eq_true hc1)) rfl rfl rfl fun a hk => ?_
    refine (c_end (x_t ?_))
    refine c_T hk rfl ?_
    refine wpIn_seq ?_
    refine wpIn_region_lit ?_
    refine q_val hk (w_as rfl) rfl rfl rfl fun a hk => ?_
    refine q_val hk (w_as rfl) rfl rfl rfl fun a hk => ?_
    refine (c_end (x_t ?_))
    refine (wpIn_ret (x_tr ?_))
    refine c_ret2 hk rfl rfl rfl ?_
    refine ⟨none, 0, 0, by unfold tErr; rw [if_pos (by omega)], ?_⟩
    unfold tB
    rw [if_pos (by omega)]
    exact (hs.row0 _ _).fin
  · skip
    refine q_val hk (w_lt rfl rfl (decide_eq_false hc1)) rfl rfl rfl fun a hk => ?_
    refine (c_end (x_t ?_))
    refine c_F hk rfl ?_
    refine (wpIn_skip (x_t ?_))
    refine wpIn_seq ?_
    refine wpIn_region_lit ?_
    refine q_val hk (w_mv rfl) rfl rfl rfl fun a hk => ?_
    refine q_val hk (w_mv rfl) rfl rfl rfl fun a hk => ?_
    refine q_val hk (w_len rfl Tryd.underlying29) rfl rfl rfl fun a hk => ?_
    refine q_val hk (w_sub rfl rfl (wr64 (by omega) (by omega))) rfl rfl rfl fun a hk => ?_
    refine q_val hk (w_slc (l := 0) (h := (n - 32)) rfl rfl rfl Tryd.underlying29 ty5 rfl rfl (by omega) (by omega) (by omega) (by omega) (by omega)) rfl rfl rfl fun a hk => ?_
    refine q_call (caps := []) hk rfl rfl Tryd.func34 fo34 rfl rfl (refTagged_c _ (n - 32) _ (l.take (n - 32)) _ (subB (l := 0) (h := (n - 32)) (m := lc) (hs.ri 0 rfl) (by omega) (by omega) (by omega) (by omega)) (take_lt hl _) (by omega)) ?_
    rintro _ w ⟨a2, c3, rfl, hS⟩
    have hs := hs.call1 hS
    clear hS
    refine ⟨_, rfl, fun a hk => ?_⟩
    refine q_val hk (w_as rfl) rfl rfl rfl fun a hk => ?_
    refine q_val hk (w_as rfl) rfl rfl rfl fun a hk => ?_
    refine (c_end (x_t ?_))
    refine (wpIn_ret ?_)
    refine c_ret2 hk rfl rfl rfl ?_
    refine ⟨a2, (n - 32 + 32), c3, by unfold tErr; rw [if_neg (by omega)], ?_⟩
    unfold tB
    rw [if_neg (by omega)]
    exact hs.fin
theorem or_zero2 {y z : Nat} : y ||| z = 0 ↔ y = 0 ∧ z = 0 := by simp
theorem xor_zero {y z : Nat} : y ^^^ z = 0 ↔ y = z := by
  constructor
  · intro h
    have : y ^^^ z ^^^ z = z := by rw [h, Nat.zero_xor]
    rwa [Nat.xor_assoc, Nat.xor_self, Nat.xor_zero] at this
  · rintro rfl; exact Nat.xor_self _
theorem all_succ {k : Nat} {p : Nat → Prop} : ((∀ i, i < k → p i) ∧ p k) ↔ ∀ i, i < k + 1 → p i := by
  constructor
  · intro h i hi
    rcases Nat.lt_succ_iff_lt_or_eq.1 hi with h' | rfl
    · exact h.1 i h'
    · exact h.2
  · exact fun h => ⟨fun i hi => h i (by omega), h k (by omega)⟩
theorem getD_lt {l : List Nat} (hl : ∀ x ∈ l, x < 256) (k : Nat) : l.getD k 0 < 256 := by
  by_cases hj : k < l.length
  · rw [show l.getD k 0 = l[k] by simp [List.getD, hj]]; exact hl _ (List.getElem_mem hj)
  · rw [show l.getD k 0 = 0 by simp [List.getD, List.getElem?_eq_none (Nat.le_of_not_lt hj)]]; decide
theorem drop_lt {l : List Nat} (hl : ∀ x ∈ l, x < 256) (k j : Nat) : ∀ x ∈ (l.drop k).take j, x < 256 := fun x hx => hl x (List.mem_of_mem_drop (List.mem_of_mem_take hx))
theorem list_eq {l m : List Nat} {n : Nat} (h1 : l.length = n) (h2 : m.length = n) : (∀ i, i < n → l.getD i 0 = m.getD i 0) ↔ l = m := by
  constructor
  · intro h
    apply List.ext_getElem (by omega)
    intro i hi hi2
    have := h i (by omega)
    simpa [List.getD, hi, hi2] using this
  · rintro rfl i _
    rfl
/-- Are the last 32 bytes the sum of those ahead? -/
def tagOk (n : Nat) (l : List Nat) : Bool := decide (shaL (l.take (n - 32)) = (l.drop (n - 32)).take 32)
theorem sameTag_c (la : Option Addr) (n lc : Nat) (l : List Nat) (W : World) (H : LstAt W 1 (.slice la n lc) n (el bc l)) (hl : ∀ x ∈ l, x < 256) (hn : n ≤ 100000) (h32 : 32 ≤ n) (HL : Sh.Laid W) : Calls Tryd.prog 36 [.slice la n lc].toArray W fun e w => e = .returned (.bool (tagOk n l)) ∧ Below W.heap.size W w := by
  have hcap := lst_cap H
  have hlen := lst_num H
  refine c_enter (args := [.slice la n lc]) Tryd.func36 rfl rfl rfl fun a hk => ?_
  have hs := Sat.start W [lst 1 (.slice la n lc) n (el bc l)] (okr1 H)
  refine wpIn_seq ?_
  refine wpIn_region_lit ?_
  refine q_val hk (w_as rfl) rfl rfl rfl fun a hk => ?_
  refine (c_end (x_t ?_))
  refine wpIn_seq ?_
  refine wpIn_region_lit ?_
  refine q_val hk (w_mv rfl) rfl rfl rfl fun a hk => ?_
  refine q_val hk (w_len rfl Tryd.underlying29) rfl rfl rfl fun a hk => ?_
  refine q_val hk (w_sub rfl rfl (wr64 (by omega) (by omega))) rfl rfl rfl fun a hk => ?_
  refine q_val hk (w_as rfl) rfl rfl rfl fun a hk => ?_
  refine (c_end (x_t ?_))
  refine wpIn_seq ?_
  refine wpIn_region_lit ?_
  refine q_val hk (w_mv rfl) rfl rfl rfl fun a hk => ?_
  refine q_val hk (w_mv rfl) rfl rfl rfl fun a hk => ?_
  refine q_val hk (w_slc (l := (n - 32)) (h := n) rfl rfl rfl Tryd.underlying29 ty5 rfl rfl (by omega) (by omega) (by omega) (by omega) (by omega)) rfl rfl rfl fun a hk => ?_
  refine q_val hk (w_s2a rfl (sla_some (l := (n - 32)) (m := lc) (hs.ri 0 rfl) (by omega) (by omega)) Tryd.underlying71 (by omega)) rfl rfl rfl fun a hk => ?_
  refine q_val hk (w_ldA rfl ty71 (cellsB (l := (n - 32)) (k := 32) (hs.ri 0 rfl) (by omega) (by omega)) (by rw [el_len bc_len, List.length_take, List.length_drop]; omega)) rfl rfl rfl fun a hk => ?_
  refine q_alc (vs := [.int .u8 0, .int .u8 0, .int .u8 0, .int .u8 0, .int .u8 0, .int .u8 0, .int .u8 0, .int .u8 0, .int .u8 0, .int .u8 0, .int .u8 0, .int .u8 0, .int .u8 0, .int .u8 0, .int .u8 0, .int .u8 0, .int .u8 0, .int .u8 0, .int .u8 0, .int .u8 0, .int .u8 0, .int .u8 0, .int .u8 0, .int .u8 0, .int .u8 0, .int .u8 0, .int .u8 0, .int .u8 0, .int .u8 0, .int .u8 0, .int .u8 0, .int .u8 0]) hk hs zr71 rfl rfl rfl fun b1 w a hk hs => ?_
  refine q_stoL (c := bc) (l := ((l.drop (n - 32)).take 32)) hk hs rfl rfl rfl ty71 rfl (by rw [el_len bc_len, List.length_take, List.length_drop]; omega) (el_ones bc_ones) (by kernel_rfl) rfl fun w hs => ?_
  refine (c_end (x_t ?_))
  refine wpIn_seq ?_
  refine wpIn_region_lit ?_
  refine q_val hk (w_as rfl) rfl rfl rfl fun a hk => ?_
  refine (c_end (x_t ?_))
  refine wpIn_seq ?_
  refine wpIn_seq ?_
  refine wpIn_region_lit ?_
  refine q_val hk (w_mv rfl) rfl rfl rfl fun a hk => ?_
  refine q_val hk (w_mv rfl) rfl rfl rfl fun a hk => ?_
  refine q_val hk (w_slc (l := 0) (h := (n - 32)) rfl rfl rfl Tryd.underlying29 ty5 rfl rfl (by omega) (by omega) (by omega) (by omega) (by omega)) rfl rfl rfl fun a hk => ?_
  refine q_call (caps := []) hk rfl rfl Tryd.func46 fo46 rfl rfl (shaQ _ _ _ (l.take (n - 32)) _ (subB (l := 0) (h := (n - 32)) (m := lc) (hs.ri 0 rfl) (by omega) (by omega) (by omega) (by omega)) (take_lt hl _) (by omega) (HL.step hs.toBelow)) ?_
  rintro _ w ⟨rfl, hb⟩
  have hs := hs.below hb
  refine ⟨_, rfl, fun a hk => ?_⟩
  refine q_val hk (w_mv rfl) rfl rfl rfl fun a hk => ?_
  refine (c_end (x_t ?_))
  refine wpIn_block ?_
  refine c_loop (α := Nat) (fun k a w => ∃ (y : Nat), k ≤ 32 ∧ y < 256 ∧ (y = 0 ↔ ∀ i, i < k → (shaL (l.take (n - 32))).getD i 0 = ((l.drop (n - 32)).take 32).getD i 0) ∧ Kn 34 [(20, .int .i64 (k : Int)), (5, .int .u8 ((y : Nat) : Int)), (19, .agg (el bc (shaL (l.take (n - 32)))).toArray), (4, .pointer (some ⟨b1, 0, none⟩)), (2, .bool false)] a ∧ Sat no W [blk b1 (el bc ((l.drop (n - 32)).take 32)) 71] [lst 1 (.slice la n lc) n (el bc l)] w) (fun k => 32 - k) 0 ?_ ?_
  · exact ⟨_, (by omega), (by decide), ⟨fun _ i hi => absurd hi (Nat.not_lt_zero _), fun _ => rfl⟩, hk.k rfl (hk.k rfl (hk.k rfl (hk.k rfl (hk.k rfl hk.nil)))), hs⟩
  rintro k a w ⟨y, hf0, hf1, hf2, hk, hs⟩
  refine wpIn_seq ?_
  refine wpIn_region_lit ?_
  rcases Classical.em ((k : Int) < 32) with hc2 | hc2
  · skip
    have hlt : k < 32 := by omega
    refine q_val hk (w_lt rfl rfl (decide_eq_true hc2)) rfl rfl rfl fun a hk => ?_
    refine (c_end (x_t ?_))
    refine wpIn_seq ?_
    refine c_T hk rfl ?_
    refine (wpIn_skip (x_t ?_))
    refine wpIn_seq ?_
    refine wpIn_block ?_
    refine wpIn_seq ?_
    refine wpIn_region_lit ?_
    refine q_val hk (w_mv rfl) rfl rfl rfl fun a hk => ?_
    refine q_val hk (w_ix (k := k) rfl rfl Tryd.underlying71 ty5 (by omega) (by omega) (elB_at (by rw [shaL_len]; exact hlt))) rfl rfl rfl fun a hk => ?_
    refine q_val hk (w_as rfl) rfl rfl rfl fun a hk => ?_
    refine q_val hk (w_as rfl) rfl rfl rfl fun a hk => ?_
    refine (c_end (x_t ?_))
    refine wpIn_region_lit ?_
    refine q_val hk (w_mv rfl) rfl rfl rfl fun a hk => ?_
    refine q_val hk (w_mv rfl) rfl rfl rfl fun a hk => ?_
    refine q_val hk (w_mv rfl) rfl rfl rfl fun a hk => ?_
    refine q_val hk (w_iaA (k := k) rfl rfl Tryd.underlying71 ty5 (by omega) (by omega)) rfl rfl rfl fun a hk => ?_
    refine q_val hk (w_ld1 rfl ty5 (lstq (k := k) (blk_lst (hs.mi 0 rfl) (el_len bc_len) (Nat.le_refl _)) (by rw [List.length_take, List.length_drop]; omega) (el_chunk bc_len (by rw [List.length_take, List.length_drop]; omega) 0))) rfl rfl rfl fun a hk => ?_
    refine q_val hk (w_bit (op := .xor) (by simp) rfl rfl (u8_xor_nat ((shaL (l.take (n - 32))).getD k 0) (((l.drop (n - 32)).take 32).getD k 0) (getD_lt (shaL_lt _) k) (getD_lt (drop_lt hl _ _) k))) rfl rfl rfl fun a hk => ?_
    refine q_val hk (w_bit (op := .or) (by simp) rfl rfl (u8_or_nat y (((shaL (l.take (n - 32))).getD k 0) ^^^ (((l.drop (n - 32)).take 32).getD k 0)) hf1 (Nat.xor_lt_two_pow (n := 8) (getD_lt (shaL_lt _) k) (getD_lt (drop_lt hl _ _) k)))) rfl rfl rfl fun a hk => ?_
    refine q_val hk (w_as rfl) rfl rfl rfl fun a hk => ?_
    refine (c_end (x_b (x_t ?_)))
    refine wpIn_region_lit ?_
    refine q_val hk (w_add rfl rfl (wr64 (by omega) (by omega))) rfl rfl rfl fun a hk => ?_
    refine q_val hk (w_mv rfl) rfl rfl rfl fun a hk => ?_
    refine (c_end (x_t ?_))
    have hy2 : y ||| ((shaL (l.take (n - 32))).getD k 0 ^^^ ((l.drop (n - 32)).take 32).getD k 0) = 0 ↔ ∀ i, i < k + 1 → (shaL (l.take (n - 32))).getD i 0 = ((l.drop (n - 32)).take 32).getD i 0 := by
      rw [or_zero2, xor_zero, hf2]
      exact all_succ
    have hy1 : y ||| ((shaL (l.take (n - 32))).getD k 0 ^^^ ((l.drop (n - 32)).take 32).getD k 0) < 256 := Nat.or_lt_two_pow (n := 8) hf1 (Nat.xor_lt_two_pow (n := 8) (getD_lt (shaL_lt _) k) (getD_lt (drop_lt hl _ _) k))
    exact ⟨k + 1, ⟨_, (by omega), hy1, hy2, hk.k rfl (hk.k rfl (hk.k rfl (hk.k rfl (hk.k rfl hk.nil)))), hs⟩, by omega⟩
  · skip
    obtain rfl : 32 = k := by omega
    refine q_val hk (w_lt rfl rfl (decide_eq_false hc2)) rfl rfl rfl fun a hk => ?_
    refine (c_end (x_t ?_))
    refine wpIn_seq ?_
    refine c_F hk rfl ?_
    refine (wpIn_exit (x_te (x_te (x_be ?_))))
    refine (x_t ?_)
    refine wpIn_seq ?_
    refine wpIn_region_lit ?_
    refine q_val hk (w_mv rfl) rfl rfl rfl fun a hk => ?_
    rcases Classical.em (((y : Nat) : Int) = 0) with hc3 | hc3
    · skip
      refine q_val hk (w_eq rfl rfl (decide_eq_true hc3)) rfl rfl rfl fun a hk => ?_
      refine q_val hk (w_as rfl) rfl rfl rfl fun a hk => ?_
      refine (c_end (x_t ?_))
      refine (wpIn_ret ?_)
      refine c_ret1 hk rfl rfl ?_
      refine ⟨?_, hs.toBelow⟩
      have hq : (((y : Nat) : Int) = 0) ↔ (shaL (l.take (n - 32))) = ((l.drop (n - 32)).take 32) := by rw [← list_eq (shaL_len _) (by rw [List.length_take, List.length_drop]; omega : ((l.drop (n - 32)).take 32).length = 32), ← hf2]; omega
      unfold tagOk
      rw [decide_eq_true (hq.1 hc3)]
    · skip
      refine q_val hk (w_eq rfl rfl (decide_eq_false hc3)) rfl rfl rfl fun a hk => ?_
      refine q_val hk (w_as rfl) rfl rfl rfl fun a hk => ?_
      refine (c_end (x_t ?_))
      refine (wpIn_ret ?_)
      refine c_ret1 hk rfl rfl ?_
      refine ⟨?_, hs.toBelow⟩
      have hq : (((y : Nat) : Int) = 0) ↔ (shaL (l.take (n - 32))) = ((l.drop (n - 32)).take 32) := by rw [← list_eq (shaL_len _) (by rw [List.length_take, List.length_drop]; omega : ((l.drop (n - 32)).take 32).length = 32), ← hf2]; omega
      unfold tagOk
      rw [decide_eq_false (fun h => hc3 (hq.2 h))]
end Go.Proofs.YtjhfepkpfakemaaDoor
