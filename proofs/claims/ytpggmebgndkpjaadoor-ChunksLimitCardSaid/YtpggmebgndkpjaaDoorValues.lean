/- The contract of law 8's Values. -/
import Derived.Test.YtpggmebgndkpjaaDoorAdapt
namespace Go.Proofs.YtpggmebgndkpjaaDoor
set_option linter.all false
open Go Go.RowKit
theorem form8_c (s : Bool) (b : Nat) (hb : b < R4) (w : World) :
    Calls Tryd.prog 59 #[vec (pr s), vec b] w fun e w' => e = .returned (vec (RR s b)) ∧ Below w.heap.size w w' := by
  have hp := pr_lt s
  have hp1 := pr_gt1 s
  go_enter Tryd.func59, Tryd.ntmps59
  go_wp2_with fail
  refine Calls.mono (refForm_s s b _ hb) ?_
  rintro _ w1 ⟨rfl, h1⟩
  obtain ⟨c1, f1, s1⟩ := bfacts h1
  try simp only [World.size_alloc, World.size_setCell, size_drew, size_drewN] at s1
  go_wp2_with fail
  refine bodyPost_ret (v := vec (RR s b)) (by simp only [results, Tryd.results59]; go_simp) rfl ⟨rfl, ?_⟩
  repeat first
    | with_reducible exact Below.refl _ _
    | with_reducible refine Below.drew ?_
    | with_reducible refine below_dN ?_
    | with_reducible refine Below.alloc ?_ (by first | omega | (simp; done) | (simp; omega)) _
    | with_reducible refine Below.setCell ?_ (by first | omega | (simp; done) | (simp; omega)) _
    | with_reducible refine Below.trans ?_ (Below.mono (by assumption) (by first | omega | (simp; done) | (simp; omega)))
theorem values_q (s : Bool) (la : Option Addr) (n lc : Nat) (A : Nat → Nat) (W : World) (HA : LstAt W 4 (.slice la n lc) n (en vq A n)) (hn : n ≤ 100000000) (H4 : ∀ i, i < n → A i < R4) : Calls Tryd.prog 33 [vec (pr s), .slice la n lc].toArray W fun e w => ∃ a1 c1 a2 c2, e = .returned (.tuple #[.slice a1 n c1, .slice a2 n c2]) ∧ Sat no W [row 44 4 (.slice a1 n c1) n (en vq (fun i => mulm (pr s) 1 (A i)) n), row 45 4 (.slice a2 n c2) n (en vq (fun i => RR s (mulm (pr s) 1 (A i))) n)] [] w := by
  refine c_enter (args := [vec (pr s), .slice la n lc]) Tryd.func33 rfl rfl rfl fun a hk => ?_
  have hs := Sat.start W [lst 4 (.slice la n lc) n (en vq A n)] (fun r hr => by rcases List.mem_singleton.1 hr with rfl; exact HA)
  refine wpIn_seq ?_
  refine wpIn_region_lit ?_
  refine q_box (vs := [.int .u64 ((dg 0 (pr s) : Nat) : Int), .int .u64 ((dg 1 (pr s) : Nat) : Int), .int .u64 ((dg 2 (pr s) : Nat) : Int), .int .u64 ((dg 3 (pr s) : Nat) : Int)]) hk hs rfl rfl rfl rfl fun b1 w a hk hs => ?_
  refine q_val hk (w_as rfl) rfl rfl rfl fun a hk => ?_
  refine q_val hk (w_as rfl) rfl rfl rfl fun a hk => ?_
  refine (c_end (x_t ?_))
  refine wpIn_seq ?_
  refine wpIn_region_lit ?_
  refine q_val hk (w_as rfl) rfl rfl rfl fun a hk => ?_
  refine (c_end (x_t ?_))
  refine wpIn_seq ?_
  refine wpIn_region_lit ?_
  refine q_val hk (w_as rfl) rfl rfl rfl fun a hk => ?_
  refine (c_end (x_t ?_))
  refine wpIn_seq ?_
  refine wpIn_seq ?_
  refine wpIn_region_lit ?_
  refine q_val hk (w_mv rfl) rfl rfl rfl fun a hk => ?_
  refine q_val hk (w_len rfl Tryd.underlying42) rfl rfl rfl fun a hk => ?_
  refine q_val hk (w_mv rfl) rfl rfl rfl fun a hk => ?_
  refine (c_end (x_t ?_))
  refine wpIn_block ?_
  have hs := hs.row0 44 4
  have hs := hs.row0 45 4
  refine c_loop (α := Nat) (fun k a w => ∃ (av : Option Addr) (cv : Nat) (ax : Option Addr) (cx : Nat), k ≤ n ∧ Kn 36 [(12, .int .i64 (k : Int)), (6, .slice av k cv), (7, .slice ax k cx), (11, .int .i64 ((n : Nat) : Int)), (10, .slice la n lc), (5, .slice none 0 0), (4, .slice none 0 0), (2, .pointer (some ⟨b1, 0, none⟩))] a ∧ Sat no W [row 45 4 (.slice ax k cx) k (en vq (fun i => RR s (mulm (pr s) 1 (A i))) k), row 44 4 (.slice av k cv) k (en vq (fun i => mulm (pr s) 1 (A i)) k), blk b1 [.int .u64 ((dg 0 (pr s) : Nat) : Int), .int .u64 ((dg 1 (pr s) : Nat) : Int), .int .u64 ((dg 2 (pr s) : Nat) : Int), .int .u64 ((dg 3 (pr s) : Nat) : Int)] 44] [lst 4 (.slice la n lc) n (en vq A n)] w) (fun k => n - k) 0 ?_ ?_
  · exact ⟨_, _, _, _, (by omega), hk.k rfl (hk.k rfl (hk.k rfl (hk.k rfl (hk.k rfl (hk.k rfl (hk.k rfl (hk.k rfl hk.nil))))))), hs⟩
  rintro k a w ⟨av, cv, ax, cx, hf0, hk, hs⟩
  refine wpIn_seq ?_
  refine wpIn_region_lit ?_
  rcases Classical.em ((k : Int) < ((n : Nat) : Int)) with hc2 | hc2
  · skip
    have hlt : k < n := by omega
    refine q_val hk (w_lt rfl rfl (decide_eq_true hc2)) rfl rfl rfl fun a hk => ?_
    refine (c_end (x_t ?_))
    refine wpIn_seq ?_
    refine c_T hk rfl ?_
    refine (wpIn_skip (x_t ?_))
    refine wpIn_seq ?_
    refine wpIn_block ?_
    refine wpIn_seq ?_
    refine wpIn_region_lit ?_
    refine q_val hk (w_iaL (k := k) rfl rfl Tryd.underlying42 ty44 (hs.ri 0 rfl) (by omega) (by omega)) rfl rfl rfl fun a hk => ?_
    refine q_val hk (w_ldv (z := A k) rfl ty44 (lstq (k := k) (hs.ri 0 rfl) (by omega) (en_chunk vq_len (by omega)))) rfl rfl rfl fun a hk => ?_
    refine q_alc (vs := [.int .u64 0, .int .u64 0, .int .u64 0, .int .u64 0]) hk hs zr44 rfl rfl rfl fun b3 w a hk hs => ?_
    refine q_sto (o := 0) (cs := [.int .u64 ((dg 0 (A k) : Nat) : Int), .int .u64 ((dg 1 (A k) : Nat) : Int), .int .u64 ((dg 2 (A k) : Nat) : Int), .int .u64 ((dg 3 (A k) : Nat) : Int)]) (vs' := [.int .u64 ((dg 0 (A k) : Nat) : Int), .int .u64 ((dg 1 (A k) : Nat) : Int), .int .u64 ((dg 2 (A k) : Nat) : Int), .int .u64 ((dg 3 (A k) : Nat) : Int)]) hk hs rfl rfl rfl ty44 rfl rfl rfl rfl rfl rfl fun w hs => ?_
    refine (c_end (x_t ?_))
    refine wpIn_seq ?_
    refine wpIn_region_lit ?_
    refine q_val hk (w_mv rfl) rfl rfl rfl fun a hk => ?_
    refine q_val hk (w_ldv (z := pr s) rfl ty44 (.blk (n := 4) (hs.mi 3 rfl) rfl)) rfl rfl rfl fun a hk => ?_
    refine q_val hk (w_ldv (z := A k) rfl ty44 (.blk (n := 4) (hs.mi 0 rfl) rfl)) rfl rfl rfl fun a hk => ?_
    refine q_call (caps := []) hk rfl rfl Tryd.func58 fo58 rfl rfl (refMod_c (pr s) (A k) (pr_lt s) (pr_gt1 s) (H4 k hlt) _) ?_
    rintro _ w ⟨rfl, hb⟩
    have hs := hs.below hb
    refine ⟨_, rfl, fun a hk => ?_⟩
    refine q_bsl (els := [.tmp 19]) (cs := [.int .u64 ((dg 0 (mulm (pr s) 1 (A k)) : Nat) : Int), .int .u64 ((dg 1 (mulm (pr s) 1 (A k)) : Nat) : Int), .int .u64 ((dg 2 (mulm (pr s) 1 (A k)) : Nat) : Int), .int .u64 ((dg 3 (mulm (pr s) 1 (A k)) : Nat) : Int)]) hk hs rfl Tryd.underlying42 ty44 zr44 rfl rfl rfl rfl rfl rfl rfl fun b4 w a hk hs => ?_
    have hs := hs.up3
    refine q_app (news := [.int .u64 ((dg 0 (mulm (pr s) 1 (A k)) : Nat) : Int), .int .u64 ((dg 1 (mulm (pr s) 1 (A k)) : Nat) : Int), .int .u64 ((dg 2 (mulm (pr s) 1 (A k)) : Nat) : Int), .int .u64 ((dg 3 (mulm (pr s) 1 (A k)) : Nat) : Int)]) (m := 1) hk hs rfl rfl Tryd.underlying42 ty44 zr44 rfl rfl (.blk (n := 4) (hs.mi 1 rfl) rfl) rfl rfl (by omega) (by omega) rfl rfl fun a5 c6 w a hk hs => ?_
    have hs := hs.up1
    have hs := hs.drop
    have hs := hs.rw0 (congrArg _ en_succ)
    refine q_val hk (w_as rfl) rfl rfl rfl fun a hk => ?_
    refine (c_end (x_t ?_))
    have hL := okL.cons (hs.mi 3 rfl) (okL.cons (hs.mi 0 rfl) okL.nil)
    refine d_begin _ 12 (by kernel_rfl) rfl hs hL fun w hs hL => ?_
    refine d_v 0 1 hk hL rfl (by kernel_rfl) rfl rfl (fun w hL => w_mv rfl) fun a hk => ?_
    refine d_v 1 3 hk hL rfl (by kernel_rfl) rfl rfl (fun w hL => w_ldv (z := pr s) rfl ty44 (.blk (n := 4) (hL.at 0 rfl) rfl)) fun a hk => ?_
    refine d_v 2 7 hk hL rfl (by kernel_rfl) rfl rfl (fun w hL => w_mv rfl) fun a hk => ?_
    refine d_v 3 15 hk hL rfl (by kernel_rfl) rfl rfl (fun w hL => w_mv rfl) fun a hk => ?_
    refine d_v 4 31 hk hL rfl (by kernel_rfl) rfl rfl (fun w hL => w_len rfl Tryd.underlying42) fun a hk => ?_
    refine d_v 5 63 hk hL rfl (by kernel_rfl) rfl rfl (fun w hL => w_sub rfl rfl (wr64 (by omega) (by omega))) fun a hk => ?_
    refine d_v 6 127 hk hL rfl (by kernel_rfl) rfl rfl (fun w hL => w_iaL (k := k) rfl rfl Tryd.underlying42 ty44 (row_lst (hL.at 1 rfl)) (by omega) (by omega)) fun a hk => ?_
    refine d_v 7 255 hk hL rfl (by kernel_rfl) rfl rfl (fun w hL => w_ldv (z := mulm (pr s) 1 (A k)) rfl ty44 (lstq (k := k) (row_lst (hL.at 1 rfl)) (by omega) (en_chunk vq_len (by omega)))) fun a hk => ?_
    refine d_1 8 511 rfl (by kernel_rfl) fun K hK => ?_
    refine q_call (caps := []) hk rfl rfl Tryd.func59 fo59 rfl rfl (form8_c s (mulm (pr s) 1 (A k)) (Nat.lt_trans (red_lt s _) (pr_lt s)) _) ?_
    rintro _ w ⟨rfl, hb⟩
    have hs := hs.below hb
    refine ⟨_, rfl, fun a hk => ?_⟩
    have hL := okL.cons (hs.mi 3 rfl) (okL.cons (hs.mi 0 rfl) okL.nil)
    refine c_end (x_t (hK _ _ hL ?_))
    clear hK K
    refine d_1 9 1023 rfl (by kernel_rfl) fun K hK => ?_
    refine q_bsl (els := [.tmp 30]) (cs := [.int .u64 ((dg 0 (RR s (mulm (pr s) 1 (A k))) : Nat) : Int), .int .u64 ((dg 1 (RR s (mulm (pr s) 1 (A k))) : Nat) : Int), .int .u64 ((dg 2 (RR s (mulm (pr s) 1 (A k))) : Nat) : Int), .int .u64 ((dg 3 (RR s (mulm (pr s) 1 (A k))) : Nat) : Int)]) hk hs rfl Tryd.underlying50 ty45 zr45 rfl rfl rfl rfl rfl rfl rfl fun b1_9 w a hk hs => ?_
    have hL := okL.cons (hs.mi 4 rfl) (okL.cons (hs.mi 1 rfl) okL.nil)
    refine c_end (x_t (hK _ _ hL ?_))
    clear hK K
    refine d_1 10 2047 rfl (by kernel_rfl) fun K hK => ?_
    have hs := hs.up3
    refine q_app (news := [.int .u64 ((dg 0 (RR s (mulm (pr s) 1 (A k))) : Nat) : Int), .int .u64 ((dg 1 (RR s (mulm (pr s) 1 (A k))) : Nat) : Int), .int .u64 ((dg 2 (RR s (mulm (pr s) 1 (A k))) : Nat) : Int), .int .u64 ((dg 3 (RR s (mulm (pr s) 1 (A k))) : Nat) : Int)]) (m := 1) hk hs rfl rfl Tryd.underlying50 ty45 zr45 rfl rfl (.blk (n := 4) (hs.mi 1 rfl) rfl) rfl rfl (by omega) (by omega) rfl rfl fun a1_10 c1_10b w a hk hs => ?_
    have hs := hs.up1
    have hs := hs.drop
    have hL := okL.cons (hs.mi 3 rfl) (okL.cons (hs.mi 1 rfl) okL.nil)
    refine c_end (x_t (hK _ _ hL ?_))
    clear hK K
    refine d_v 11 4095 hk hL rfl (by kernel_rfl) rfl rfl (fun w hL => w_as rfl) fun a hk => ?_
    refine d_end (by kernel_rfl) ?_
    refine (x_b (x_t ?_))
    refine wpIn_region_lit ?_
    refine q_val hk (w_add rfl rfl (wr64 (by omega) (by omega))) rfl rfl rfl fun a hk => ?_
    refine q_val hk (w_mv rfl) rfl rfl rfl fun a hk => ?_
    refine (c_end (x_t ?_))
    have hs := hs.rw0 (congrArg _ en_succ)
    have hs := hs.up2
    have hs := hs.drop
    exact ⟨k + 1, ⟨_, _, _, _, (by omega), hk.k rfl (hk.k rfl (hk.k rfl (hk.k rfl (hk.k rfl (hk.k rfl (hk.k rfl (hk.k rfl hk.nil))))))), hs⟩, by omega⟩
  · skip
    obtain rfl : n = k := by omega
    refine q_val hk (w_lt rfl rfl (decide_eq_false hc2)) rfl rfl rfl fun a hk => ?_
    refine (c_end (x_t ?_))
    refine wpIn_seq ?_
    refine c_F hk rfl ?_
    refine (wpIn_exit (x_te (x_te (x_be ?_))))
    refine (x_t ?_)
    refine wpIn_seq ?_
    refine wpIn_region_lit ?_
    refine q_val hk (w_mv rfl) rfl rfl rfl fun a hk => ?_
    refine q_val hk (w_mv rfl) rfl rfl rfl fun a hk => ?_
    refine q_val hk (w_as rfl) rfl rfl rfl fun a hk => ?_
    refine q_val hk (w_as rfl) rfl rfl rfl fun a hk => ?_
    refine (c_end (x_t ?_))
    refine (wpIn_ret ?_)
    refine c_ret2 hk rfl rfl rfl ?_
    have hs := hs.up2
    have hs := hs.drop
    have hs := hs.up1
    exact ⟨_, _, _, _, rfl, hs.fin⟩
end Go.Proofs.YtpggmebgndkpjaaDoor
