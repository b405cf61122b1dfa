/- Part 6 of what the proof of JoinValues, JoinCombines, JoinAt needs: joined out of the texts of this seat, only what is used. -/
import Derived.Test.YtdnkkbmpefhbjaaGreatDoorPbE
import Derived.Test.YtdnkkbmpefhbjaaGreatDoorRows
import Derived.WalkKit
import Derived.ProofKit
import Derived.LaidMore
import Derived.OpenShut
import Derived.ShutString
import Derived.ChangeOld
import Derived.Below
namespace Go.Proofs.YtdnkkbmpefhbjaaGreatDoor
set_option linter.all false
open Go Go.RowKit Alg
theorem lstNilB {w : World} : LstAt w 1 (.slice none 0 0) 0 (el bc []) := ⟨rfl, none, 0, rfl, Nat.le_refl _, fun _ => ⟨rfl, rfl⟩, fun ad h => by cases h⟩
/-- A share of nothing. -/
def zsh : Shr := ⟨0, 0, 0, 0, 0, fun _ => 0, none, 0⟩
theorem zsh_pay {w : World} : (payR zsh).ok w := lstNil
/-- The share that At hands back: the program's, the reference's. -/
def atS (s : Bool) (S : Nat → Shr) (ix : Nat) (a : Option Addr) (c : Nat) : Shr := ⟨(S 0).F, (S 0).T, ((ix : Nat) : Int), (S 0).L, (S 0).n, fun i => mq (atZ s S (thN S) (zn s ix) i), a, c⟩
def atR (s : Bool) (S : Nat → Shr) (ix : Nat) (a : Option Addr) (c : Nat) : Shr := ⟨(S 0).F, (S 0).T, ((ix : Nat) : Int), (S 0).L, (S 0).n, fun i => mq (rEv (polF s S (thN S) i) (zn s ix) (thN S)), a, c⟩
theorem sameZ {b d T T' : Nat} {w : World} (h1 : (blk b [.int .i64 0, .int .i64 0, .int .i64 0, .int .i64 0, .slice none 0 0] T).ok w) (h2 : (blk d [.int .i64 0, .int .i64 0, .int .i64 0, .int .i64 0, .slice none 0 0] T').ok w) :
    Calls Tryz.prog 48 #[.slice (some ⟨b, 0, none⟩) 1 1, .slice (some ⟨d, 0, none⟩) 1 1] w fun e w' => e = .returned (.bool true) ∧ Below w.heap.size w w' :=
  same16_c 1 1 1 _ _ (fun _ => zsh) (fun _ => zsh) w (one_share (x := zsh) h1 zsh_pay) (one_share (x := zsh) h2 zsh_pay) (by decide) (fun _ _ => by show (0 : Nat) ≤ 1000; decide) (fun _ _ => ⟨rfl, rfl, rfl, rfl, rfl⟩) (fun _ _ _ _ => rfl) (fun _ _ i hi => absurd hi (Nat.not_lt_zero i))
theorem sameAt {s : Bool} {S : Nat → Shr} {m ix c1 c2 b d T T' : Nat} {q1 q2 : Option Addr} {w : World} (g : Good s S m) (hn9 : (S 0).n ≤ 4) (h1 : (blk b (shc (atS s S ix q1 c1)) T).ok w) (h2 : (blk d (shc (atR s S ix q2 c2)) T').ok w)
    (p1 : LstAt w 4 (.slice q1 (S 0).n c1) (S 0).n (en vq (fun i => mq (atZ s S (thN S) (zn s ix) i)) (S 0).n)) (p2 : LstAt w 4 (.slice q2 (S 0).n c2) (S 0).n (en vq (fun i => mq (rEv (polF s S (thN S) i) (zn s ix) (thN S))) (S 0).n)) :
    Calls Tryz.prog 48 #[.slice (some ⟨b, 0, none⟩) 1 1, .slice (some ⟨d, 0, none⟩) 1 1] w fun e w' => e = .returned (.bool true) ∧ Below w.heap.size w w' :=
  same16_c 1 1 1 _ _ (fun _ => atS s S ix q1 c1) (fun _ => atR s S ix q2 c2) w (one_share h1 p1) (one_share h2 p2) (by decide) (fun _ _ => by show (S 0).n ≤ 1000; omega) (fun _ _ => ⟨rfl, rfl, rfl, rfl, rfl⟩)
    (fun _ _ i _ => by show mq (atZ s S (thN S) (zn s ix) i) = mq (rEv (polF s S (thN S) i) (zn s ix) (thN S)); rw [g.at_eq]) (fun _ _ i _ => mq_lt4 _)
theorem lawVal_big (m lc : Nat) (la : Option Addr) (S : Nat → Shr) (W : World) (HS : (shareR la m lc S).ok W) (HL : Laid W) (hg : 0 < lrg S m) : Calls Tryz.prog 9 [.slice la m lc].toArray W fun e w => e = .returned (.bool true) ∧ Below W.heap.size W w := by
 refine c_enter (args := [.slice la m lc]) Tryz.func9 rfl rfl rfl fun a hk => ?_
 have hs := Sat.start W [shareR la m lc S] (okr1 HS)
 refine wS (wR ?_)
 refine q_v hk (w_as rfl) fun a hk => ?_
 refine c_end (x_t (wS (wS (wR ?_))))
 refine q_v hk (w_mv rfl) fun a hk => ?_
 refine q_call (caps := []) hk rfl rfl Tryz.func15 fo15 rfl rfl (large_c m lc la S _ ((HasR.nth 0 rfl : HasR (shareR la m lc S) _).at_ hs)) ?_
 rintro _ w ⟨rfl, hb⟩
 have hs := hs.below hb
 refine ⟨_, rfl, fun a hk => ?_⟩
 refine q_v hk (w_gt rfl rfl (decide_eq_true hg)) fun a hk => ?_
 refine c_end (x_t ?_)
 refine c_T hk rfl ?_
 refine wS (wR ?_)
 refine q_call (caps := []) hk rfl rfl Tryz.func40 fo40 rfl rfl (alive17_c _ (HL.step hs.toBelow)) ?_
 rintro _ w ⟨rfl, hb⟩
 have hs := hs.below hb
 refine ⟨_, rfl, fun a hk => ?_⟩
 refine q_v hk (w_as rfl) fun a hk => ?_
 refine c_end (x_t ?_)
 refine (wpIn_ret (x_tr ?_))
 refine c_ret1 hk rfl rfl ?_
 exact ⟨rfl, hs.toBelow⟩
theorem lawVal_bad (m lc : Nat) (la : Option Addr) (S : Nat → Shr) (W : World) (HS : (shareR la m lc S).ok W) (HL : Laid W) (hg : ¬ 0 < lrg S m) (HO : ShOk S m) (hm : m ≤ 12) (hz : csErr S m ≠ 0) : Calls Tryz.prog 9 [.slice la m lc].toArray W fun e w => e = .returned (.bool true) ∧ Below W.heap.size W w := by
 have hrg := csErr_rng S m
 refine c_enter (args := [.slice la m lc]) Tryz.func9 rfl rfl rfl fun a hk => ?_
 have hs := Sat.start W [shareR la m lc S] (okr1 HS)
 refine wS (wR ?_)
 refine q_v hk (w_as rfl) fun a hk => ?_
 refine c_end (x_t (wS (wS (wR ?_))))
 refine q_v hk (w_mv rfl) fun a hk => ?_
 refine q_call (caps := []) hk rfl rfl Tryz.func15 fo15 rfl rfl (large_c m lc la S _ ((HasR.nth 0 rfl : HasR (shareR la m lc S) _).at_ hs)) ?_
 rintro _ w ⟨rfl, hb⟩
 have hs := hs.below hb
 refine ⟨_, rfl, fun a hk => ?_⟩
 refine q_v hk (w_gt rfl rfl (decide_eq_false hg)) fun a hk => ?_
 refine c_end (x_t ?_)
 refine c_F hk rfl ?_
 refine (wpIn_skip (x_t ?_))
 refine wS (wR ?_)
 refine q_v hk (w_mv rfl) fun a hk => ?_
 refine q_call (caps := []) hk rfl rfl Tryz.func41 fo41 rfl rfl (valN_bad ((HasR.nth 0 rfl : HasR (shareR la m lc S) _).at_ hs) (HL.step hs.toBelow) HO hz) ?_
 rintro _ w ⟨rfl, hb⟩
 have hs := hs.below hb
 refine ⟨_, rfl, fun a hk => ?_⟩
 refine q_v hk (w_mv rfl) fun a hk => ?_
 refine q_v hk (w_ext rfl rfl) fun a hk => ?_
 refine q_v hk (w_ext rfl rfl) fun a hk => ?_
 refine q_v hk (w_as rfl) fun a hk => ?_
 refine q_v hk (w_as rfl) fun a hk => ?_
 refine c_end (x_t (wS (wR ?_)))
 refine q_v hk (w_mv rfl) fun a hk => ?_
 refine q_call (caps := []) hk rfl rfl Tryz.func42 fo42 rfl rfl (rvalues_bad m lc la S _ ((HasR.nth 0 rfl : HasR (shareR la m lc S) _).at_ hs) HO hz) ?_
 rintro _ w ⟨rfl, hb⟩
 have hs := hs.below hb
 refine ⟨_, rfl, fun a hk => ?_⟩
 refine q_v hk (w_mv rfl) fun a hk => ?_
 refine q_v hk (w_ext rfl rfl) fun a hk => ?_
 refine q_v hk (w_ext rfl rfl) fun a hk => ?_
 refine q_v hk (w_as rfl) fun a hk => ?_
 refine q_v hk (w_as rfl) fun a hk => ?_
 refine c_end (x_t (wS (wS (wR ?_))))
 refine q_v hk (w_mv rfl) fun a hk => ?_
 refine q_v hk (w_len rfl Tryz.underlying51) fun a hk => ?_
 refine q_v hk (w_mv rfl) fun a hk => ?_
 refine q_v hk (w_len rfl Tryz.underlying72) fun a hk => ?_
 refine q_v hk (w_ne rfl rfl (decide_eq_false (by decide))) fun a hk => ?_
 refine q_v hk (w_mv rfl) fun a hk => ?_
 refine q_v hk (w_mv rfl) fun a hk => ?_
 refine q_v hk (w_mv rfl) fun a hk => ?_
 refine q_v hk (w_ne rfl rfl (decide_eq_false (fun h => h rfl))) fun a hk => ?_
 refine q_v hk (w_pickF rfl rfl) fun a hk => ?_
 refine c_end (x_t ?_)
 refine c_F hk rfl ?_
 refine (wpIn_skip (x_t ?_))
 refine wS (wS (wR ?_))
 refine q_v hk (w_mv rfl) fun a hk => ?_
 refine q_v hk (w_len rfl Tryz.underlying51) fun a hk => ?_
 refine q_v hk (w_mv rfl) fun a hk => ?_
 refine c_end (x_t ?_)
 refine wpIn_block ?_
 refine c_loop (α := Nat) (fun k a w => k ≤ 0 ∧ Kn [] 54 [(34, .int .i64 ((k : Nat) : Int)), (33, .int .i64 0), (5, .slice none 0 0), (3, .slice none 0 0), (0, .slice la m lc)] a ∧ Sat no W [] [shareR la m lc S] w) (fun k => 0 - k) 0 ?_ ?_
 · exact ⟨(by omega), hk.k rfl (hk.k rfl (hk.k rfl (hk.k rfl (hk.k rfl hk.nil)))), hs⟩
 rintro k a w ⟨hf0, hk, hs⟩
 refine wS (wR ?_)
 refine q_v hk (w_lt rfl rfl (decide_eq_false (by omega))) fun a hk => ?_
 refine c_end (x_t (wS ?_))
 refine c_F hk rfl ?_
 refine (wpIn_exit (x_te (x_te (x_be ?_))))
 refine (x_t ?_)
 refine wS (wR ?_)
 refine q_call (caps := []) hk rfl rfl Tryz.func40 fo40 rfl rfl (alive17_c _ (HL.step hs.toBelow)) ?_
 rintro _ w ⟨rfl, hb⟩
 have hs := hs.below hb
 refine ⟨_, rfl, fun a hk => ?_⟩
 refine q_v hk (w_as rfl) fun a hk => ?_
 refine c_end (x_t ?_)
 refine (wpIn_ret ?_)
 refine c_ret1 hk rfl rfl ?_
 exact ⟨rfl, hs.toBelow⟩
theorem lawVal_good (s : Bool) (m lc : Nat) (la : Option Addr) (S : Nat → Shr) (W : World) (HS : (shareR la m lc S).ok W) (HL : Laid W) (hg : ¬ 0 < lrg S m) (HO : ShOk S m) (hm : m ≤ 12) (g : Good s S m) (hz : csErr S m = 0) (hn9 : (S 0).n ≤ 4) : Calls Tryz.prog 9 [.slice la m lc].toArray W fun e w => e = .returned (.bool true) ∧ Below W.heap.size W w := by
 have hm0 := g.m0
 have hth := g.th_le
 refine c_enter (args := [.slice la m lc]) Tryz.func9 rfl rfl rfl fun a hk => ?_
 have hs := Sat.start W [shareR la m lc S] (okr1 HS)
 refine wS (wR ?_)
 refine q_v hk (w_as rfl) fun a hk => ?_
 refine c_end (x_t (wS (wS (wR ?_))))
 refine q_v hk (w_mv rfl) fun a hk => ?_
 refine q_call (caps := []) hk rfl rfl Tryz.func15 fo15 rfl rfl (large_c m lc la S _ ((HasR.nth 0 rfl : HasR (shareR la m lc S) _).at_ hs)) ?_
 rintro _ w ⟨rfl, hb⟩
 have hs := hs.below hb
 refine ⟨_, rfl, fun a hk => ?_⟩
 refine q_v hk (w_gt rfl rfl (decide_eq_false hg)) fun a hk => ?_
 refine c_end (x_t ?_)
 refine c_F hk rfl ?_
 refine (wpIn_skip (x_t ?_))
 refine wS (wR ?_)
 refine q_v hk (w_mv rfl) fun a hk => ?_
 refine q_call (caps := []) hk rfl rfl Tryz.func41 fo41 rfl rfl (valuesN ((HasR.nth 0 rfl : HasR (shareR la m lc S) _).at_ hs) (HL.step hs.toBelow) HO g hz (by omega) hn9) ?_
 rintro _ w ⟨a1, c2, rfl, hS⟩
 have hs := hs.call1 hS
 clear hS
 refine ⟨_, rfl, fun a hk => ?_⟩
 refine q_v hk (w_mv rfl) fun a hk => ?_
 refine q_v hk (w_ext rfl rfl) fun a hk => ?_
 refine q_v hk (w_ext rfl rfl) fun a hk => ?_
 refine q_v hk (w_as rfl) fun a hk => ?_
 refine q_v hk (w_as rfl) fun a hk => ?_
 refine c_end (x_t (wS (wR ?_)))
 refine q_v hk (w_mv rfl) fun a hk => ?_
 refine q_call (caps := []) hk rfl rfl Tryz.func42 fo42 rfl rfl (rvalues_c s m lc la S _ ((HasR.nth 0 rfl : HasR (shareR la m lc S) _).at_ hs) HO g hz (by omega) hn9) ?_
 rintro _ w ⟨a3, c4, rfl, hS⟩
 have hs := hs.call1 hS
 clear hS
 refine ⟨_, rfl, fun a hk => ?_⟩
 refine q_v hk (w_mv rfl) fun a hk => ?_
 refine q_v hk (w_ext rfl rfl) fun a hk => ?_
 refine q_v hk (w_ext rfl rfl) fun a hk => ?_
 refine q_v hk (w_as rfl) fun a hk => ?_
 refine q_v hk (w_as rfl) fun a hk => ?_
 refine c_end (x_t (wS (wS (wR ?_))))
 refine q_v hk (w_mv rfl) fun a hk => ?_
 refine q_v hk (w_len rfl Tryz.underlying51) fun a hk => ?_
 refine q_v hk (w_mv rfl) fun a hk => ?_
 refine q_v hk (w_len rfl Tryz.underlying72) fun a hk => ?_
 refine q_v hk (w_ne rfl rfl (decide_eq_false (by omega))) fun a hk => ?_
 refine q_v hk (w_mv rfl) fun a hk => ?_
 refine q_v hk (w_mv rfl) fun a hk => ?_
 refine q_v hk (w_mv rfl) fun a hk => ?_
 refine q_v hk (w_ne rfl rfl (decide_eq_false (by decide))) fun a hk => ?_
 refine q_v hk (w_pickF rfl rfl) fun a hk => ?_
 refine c_end (x_t ?_)
 refine c_F hk rfl ?_
 refine (wpIn_skip (x_t ?_))
 refine wS (wS (wR ?_))
 refine q_v hk (w_mv rfl) fun a hk => ?_
 refine q_v hk (w_len rfl Tryz.underlying51) fun a hk => ?_
 refine q_v hk (w_mv rfl) fun a hk => ?_
 refine c_end (x_t ?_)
 refine wpIn_block ?_
 refine c_loop (α := Nat) (fun k a w => k ≤ (S 0).n ∧ Kn [] 54 [(34, .int .i64 ((k : Nat) : Int)), (33, .int .i64 (((S 0).n : Nat) : Int)), (5, .slice a3 ((S 0).n) c4), (3, .slice a1 ((S 0).n) c2), (0, .slice la m lc)] a ∧ Sat no W [row 47 4 (.slice a3 ((S 0).n) c4) ((S 0).n) (en vq (fun i => valN s S (thN S) i) ((S 0).n)), row 56 4 (.slice a1 ((S 0).n) c2) ((S 0).n) (en vq (fun i => mq (valZ s S (thN S) i)) ((S 0).n))] [shareR la m lc S] w) (fun k => (S 0).n - k) 0 ?_ ?_
 · exact ⟨(by omega), hk.k rfl (hk.k rfl (hk.k rfl (hk.k rfl (hk.k rfl hk.nil)))), hs⟩
 rintro k a w ⟨hf0, hk, hs⟩
 refine wS (wR ?_)
 rcases Classical.em (((k : Nat) : Int) < (((S 0).n : Nat) : Int)) with hc5 | hc5
 ·
  have hlt : k < (S 0).n := by omega
  refine q_v hk (w_lt rfl rfl (decide_eq_true hc5)) fun a hk => ?_
  refine c_end (x_t (wS ?_))
  refine c_T hk rfl ?_
  refine (wpIn_skip (x_t ?_))
  refine wS ?_
  refine wpIn_block ?_
  refine wS (wR ?_)
  refine q_v hk (w_mv rfl) fun a hk => ?_
  refine q_v hk (w_as rfl) fun a hk => ?_
  refine c_end (x_t (wS ?_))
  have hL := okL.cons (hs.mi 1 rfl) (okL.cons ((share_lst (HasR.nth 0 rfl : HasR (shareR la m lc S) _)).at_ hs) (okL.cons (hs.mi 0 rfl) okL.nil))
  refine d_begin _ 15 (by kernel_rfl) rfl hs hL fun w hs hL => ?_
  refine d_w 0 1 hk hL rfl (fun w hL => w_mv rfl) fun a hk => ?_
  refine d_w 1 3 hk hL rfl (fun w hL => w_mv rfl) fun a hk => ?_
  refine d_w 2 7 hk hL rfl (fun w hL => w_iaL (k := k) rfl rfl Tryz.underlying51 ty56 (row_lst (hL.at 0 rfl)) (by omega) (by omega)) fun a hk => ?_
  refine d_w 3 15 hk hL rfl (fun w hL => w_ldv (z := mq (valZ s S (thN S) k)) rfl ty56 (lstq (k := k) (row_lst (hL.at 0 rfl)) (by omega) (en_chunk vq_len (by omega)))) fun a hk => ?_
  refine d_w 4 31 hk hL rfl (fun w hL => w_mv rfl) fun a hk => ?_
  refine d_w 5 63 hk hL rfl (fun w hL => w_iaL (k := 0) rfl rfl Tryz.underlying22 ty53 (hL.at 1 rfl) (by omega) (by omega)) fun a hk => ?_
  refine d_w 6 127 hk hL rfl (fun w hL => w_fa rfl fq53_0 ty3) fun a hk => ?_
  refine d_w 7 255 hk hL rfl (fun w hL => w_ld1 rfl ty3 (lstf (k := 0) (o := 0) (m := 1) (hL.at 1 rfl) (by omega) (en_chunk shc_len (by omega)) rfl)) fun a hk => ?_
  refine d_w 9 767 hk hL rfl (fun w hL => w_mv rfl) fun a hk => ?_
  refine d_w 10 1791 hk hL rfl (fun w hL => w_mv rfl) fun a hk => ?_
  refine d_w 11 3839 hk hL rfl (fun w hL => w_iaL (k := k) rfl rfl Tryz.underlying72 ty47 (row_lst (hL.at 2 rfl)) (by omega) (by omega)) fun a hk => ?_
  refine d_w 12 7935 hk hL rfl (fun w hL => w_ldv (z := valN s S (thN S) k) rfl ty47 (lstq (k := k) (row_lst (hL.at 2 rfl)) (by omega) (en_chunk vq_len (by omega)))) fun a hk => ?_
  refine d_1 8 8191 rfl (by kernel_rfl) fun K hK => ?_
  refine q_call (caps := []) hk rfl rfl Tryz.func28 fo28 rfl rfl (rmodulus_z (g.F 0 g.m0) _) ?_
  rintro _ w ⟨rfl, hb⟩
  have hs := hs.below hb
  refine ⟨_, rfl, fun a hk => ?_⟩
  have hL := okL.cons (hs.mi 1 rfl) (okL.cons ((share_lst (HasR.nth 0 rfl : HasR (shareR la m lc S) _)).at_ hs) (okL.cons (hs.mi 0 rfl) okL.nil))
  refine c_end (x_t (hK _ _ hL ?_))
  clear hK K
  refine d_1 13 16383 rfl (by kernel_rfl) fun K hK => ?_
  refine q_call (caps := []) hk rfl rfl Tryz.func43 fo43 rfl rfl (rform_z (x := valZ s S (thN S) k) _ rfl) ?_
  rintro _ w ⟨rfl, hb⟩
  have hs := hs.below hb
  refine ⟨_, rfl, fun a hk => ?_⟩
  have hL := okL.cons (hs.mi 1 rfl) (okL.cons ((share_lst (HasR.nth 0 rfl : HasR (shareR la m lc S) _)).at_ hs) (okL.cons (hs.mi 0 rfl) okL.nil))
  refine c_end (x_t (hK _ _ hL ?_))
  clear hK K
  refine d_w 14 32767 hk hL rfl (fun w hL => w_vne rfl rfl (mq_lt4 _) (mq_lt4 _) Tryz.underlying56 Tryz.underlying46 ty46 eg56 (decide_eq_false (fun h => h rfl))) fun a hk => ?_
  refine d_end (by kernel_rfl) ?_
  refine (x_t ?_)
  refine c_F hk rfl ?_
  refine (wpIn_skip (x_b (x_t ?_)))
  refine wR ?_
  refine q_v hk (w_add rfl rfl (wr64 (by omega) (by omega))) fun a hk => ?_
  refine q_v hk (w_mv rfl) fun a hk => ?_
  refine c_end (x_t ?_)
  exact ⟨k + 1, ⟨(by omega), hk.k rfl (hk.k rfl (hk.k rfl (hk.k rfl (hk.k rfl hk.nil)))), hs⟩, by omega⟩
 ·
  refine q_v hk (w_lt rfl rfl (decide_eq_false hc5)) fun a hk => ?_
  refine c_end (x_t (wS ?_))
  refine c_F hk rfl ?_
  refine (wpIn_exit (x_te (x_te (x_be ?_))))
  refine (x_t ?_)
  refine wS (wR ?_)
  refine q_call (caps := []) hk rfl rfl Tryz.func40 fo40 rfl rfl (alive17_c _ (HL.step hs.toBelow)) ?_
  rintro _ w ⟨rfl, hb⟩
  have hs := hs.below hb
  refine ⟨_, rfl, fun a hk => ?_⟩
  refine q_v hk (w_as rfl) fun a hk => ?_
  refine c_end (x_t ?_)
  refine (wpIn_ret ?_)
  refine c_ret1 hk rfl rfl ?_
  exact ⟨rfl, hs.toBelow⟩
theorem lawCom_big (m lc : Nat) (la : Option Addr) (S : Nat → Shr) (W : World) (HS : (shareR la m lc S).ok W) (HL : Laid W) (hg : 0 < lrg S m) : Calls Tryz.prog 10 [.slice la m lc].toArray W fun e w => e = .returned (.bool true) ∧ Below W.heap.size W w := by
 refine c_enter (args := [.slice la m lc]) Tryz.func10 rfl rfl rfl fun a hk => ?_
 have hs := Sat.start W [shareR la m lc S] (okr1 HS)
 refine wS (wR ?_)
 refine q_v hk (w_as rfl) fun a hk => ?_
 refine c_end (x_t (wS (wS (wR ?_))))
 refine q_v hk (w_mv rfl) fun a hk => ?_
 refine q_call (caps := []) hk rfl rfl Tryz.func15 fo15 rfl rfl (large_c m lc la S _ ((HasR.nth 0 rfl : HasR (shareR la m lc S) _).at_ hs)) ?_
 rintro _ w ⟨rfl, hb⟩
 have hs := hs.below hb
 refine ⟨_, rfl, fun a hk => ?_⟩
 refine q_v hk (w_gt rfl rfl (decide_eq_true hg)) fun a hk => ?_
 refine c_end (x_t ?_)
 refine c_T hk rfl ?_
 refine wS (wR ?_)
 refine q_call (caps := []) hk rfl rfl Tryz.func40 fo40 rfl rfl (alive17_c _ (HL.step hs.toBelow)) ?_
 rintro _ w ⟨rfl, hb⟩
 have hs := hs.below hb
 refine ⟨_, rfl, fun a hk => ?_⟩
 refine q_v hk (w_as rfl) fun a hk => ?_
 refine c_end (x_t ?_)
 refine (wpIn_ret (x_tr ?_))
 refine c_ret1 hk rfl rfl ?_
 exact ⟨rfl, hs.toBelow⟩
theorem lawCom_bad (m lc : Nat) (la : Option Addr) (S : Nat → Shr) (W : World) (HS : (shareR la m lc S).ok W) (HL : Laid W) (hg : ¬ 0 < lrg S m) (HO : ShOk S m) (hm : m ≤ 12) (hz : csErr S m ≠ 0) : Calls Tryz.prog 10 [.slice la m lc].toArray W fun e w => e = .returned (.bool true) ∧ Below W.heap.size W w := by
 have hrg := csErr_rng S m
 refine c_enter (args := [.slice la m lc]) Tryz.func10 rfl rfl rfl fun a hk => ?_
 have hs := Sat.start W [shareR la m lc S] (okr1 HS)
 refine wS (wR ?_)
 refine q_v hk (w_as rfl) fun a hk => ?_
 refine c_end (x_t (wS (wS (wR ?_))))
 refine q_v hk (w_mv rfl) fun a hk => ?_
 refine q_call (caps := []) hk rfl rfl Tryz.func15 fo15 rfl rfl (large_c m lc la S _ ((HasR.nth 0 rfl : HasR (shareR la m lc S) _).at_ hs)) ?_
 rintro _ w ⟨rfl, hb⟩
 have hs := hs.below hb
 refine ⟨_, rfl, fun a hk => ?_⟩
 refine q_v hk (w_gt rfl rfl (decide_eq_false hg)) fun a hk => ?_
 refine c_end (x_t ?_)
 refine c_F hk rfl ?_
 refine (wpIn_skip (x_t ?_))
 refine wS (wR ?_)
 refine q_v hk (w_mv rfl) fun a hk => ?_
 refine q_call (caps := []) hk rfl rfl Tryz.func44 fo44 rfl rfl (comN_bad ((HasR.nth 0 rfl : HasR (shareR la m lc S) _).at_ hs) (HL.step hs.toBelow) HO hz) ?_
 rintro _ w ⟨rfl, hb⟩
 have hs := hs.below hb
 refine ⟨_, rfl, fun a hk => ?_⟩
 refine q_v hk (w_mv rfl) fun a hk => ?_
 refine q_v hk (w_ext rfl rfl) fun a hk => ?_
 refine q_v hk (w_ext rfl rfl) fun a hk => ?_
 refine q_v hk (w_as rfl) fun a hk => ?_
 refine q_v hk (w_as rfl) fun a hk => ?_
 refine c_end (x_t (wS (wR ?_)))
 refine q_v hk (w_mv rfl) fun a hk => ?_
 refine q_call (caps := []) hk rfl rfl Tryz.func45 fo45 rfl rfl (rcomb_bad m lc la S _ ((HasR.nth 0 rfl : HasR (shareR la m lc S) _).at_ hs) HO hz) ?_
 rintro _ w ⟨rfl, hb⟩
 have hs := hs.below hb
 refine ⟨_, rfl, fun a hk => ?_⟩
 refine q_v hk (w_mv rfl) fun a hk => ?_
 refine q_v hk (w_ext rfl rfl) fun a hk => ?_
 refine q_v hk (w_ext rfl rfl) fun a hk => ?_
 refine q_v hk (w_as rfl) fun a hk => ?_
 refine q_v hk (w_as rfl) fun a hk => ?_
 refine c_end (x_t (wS (wR ?_)))
 refine q_call (caps := []) hk rfl rfl Tryz.func40 fo40 rfl rfl (alive17_c _ (HL.step hs.toBelow)) ?_
 rintro _ w ⟨rfl, hb⟩
 have hs := hs.below hb
 refine ⟨_, rfl, fun a hk => ?_⟩
 refine q_v hk (w_mv rfl) fun a hk => ?_
 refine q_v hk (w_mv rfl) fun a hk => ?_
 refine q_v hk (w_mv rfl) fun a hk => ?_
 refine q_call (caps := []) hk rfl rfl Tryz.func46 fo46 rfl rfl (bytesEqQ _ none none 0 0 0 0 [] [] lstNilB lstNilB rfl) ?_
 rintro _ _ ⟨rfl, rfl⟩
 refine ⟨_, rfl, fun a hk => ?_⟩
 refine q_v hk (w_pickT rfl rfl) fun a hk => ?_
 refine q_v hk (w_mv rfl) fun a hk => ?_
 refine q_v hk (w_mv rfl) fun a hk => ?_
 refine q_v hk (w_mv rfl) fun a hk => ?_
 refine q_v hk (w_eq rfl rfl (decide_eq_true rfl)) fun a hk => ?_
 refine q_v hk (w_pickT rfl rfl) fun a hk => ?_
 refine q_v hk (w_as rfl) fun a hk => ?_
 refine c_end (x_t ?_)
 refine (wpIn_ret ?_)
 refine c_ret1 hk rfl rfl ?_
 exact ⟨rfl, hs.toBelow⟩
theorem lawCom_good (s : Bool) (m lc : Nat) (la : Option Addr) (S : Nat → Shr) (W : World) (HS : (shareR la m lc S).ok W) (HL : Laid W) (hg : ¬ 0 < lrg S m) (HO : ShOk S m) (hm : m ≤ 12) (g : Good s S m) (hz : csErr S m = 0) (hn9 : (S 0).n ≤ 4) : Calls Tryz.prog 10 [.slice la m lc].toArray W fun e w => e = .returned (.bool true) ∧ Below W.heap.size W w := by
 have hm0 := g.m0
 have hth := g.th_le
 have hrg := jErr_rng (S 0).n (S 0).L (valN s S (thN S))
 refine c_enter (args := [.slice la m lc]) Tryz.func10 rfl rfl rfl fun a hk => ?_
 have hs := Sat.start W [shareR la m lc S] (okr1 HS)
 refine wS (wR ?_)
 refine q_v hk (w_as rfl) fun a hk => ?_
 refine c_end (x_t (wS (wS (wR ?_))))
 refine q_v hk (w_mv rfl) fun a hk => ?_
 refine q_call (caps := []) hk rfl rfl Tryz.func15 fo15 rfl rfl (large_c m lc la S _ ((HasR.nth 0 rfl : HasR (shareR la m lc S) _).at_ hs)) ?_
 rintro _ w ⟨rfl, hb⟩
 have hs := hs.below hb
 refine ⟨_, rfl, fun a hk => ?_⟩
 refine q_v hk (w_gt rfl rfl (decide_eq_false hg)) fun a hk => ?_
 refine c_end (x_t ?_)
 refine c_F hk rfl ?_
 refine (wpIn_skip (x_t ?_))
 refine wS (wR ?_)
 refine q_v hk (w_mv rfl) fun a hk => ?_
 refine q_call (caps := []) hk rfl rfl Tryz.func44 fo44 rfl rfl (combN ((HasR.nth 0 rfl : HasR (shareR la m lc S) _).at_ hs) (HL.step hs.toBelow) HO g hz (by omega) hn9) ?_
 rintro _ w ⟨a1, k2, c3, rfl, hS⟩
 have hs := hs.call1 hS
 clear hS
 refine ⟨_, rfl, fun a hk => ?_⟩
 refine q_v hk (w_mv rfl) fun a hk => ?_
 refine q_v hk (w_ext rfl rfl) fun a hk => ?_
 refine q_v hk (w_ext rfl rfl) fun a hk => ?_
 refine q_v hk (w_as rfl) fun a hk => ?_
 refine q_v hk (w_as rfl) fun a hk => ?_
 refine c_end (x_t (wS (wR ?_)))
 refine q_v hk (w_mv rfl) fun a hk => ?_
 refine q_call (caps := []) hk rfl rfl Tryz.func45 fo45 rfl rfl (rcomb_c s m lc la S _ ((HasR.nth 0 rfl : HasR (shareR la m lc S) _).at_ hs) HO g hz (by omega) hn9) ?_
 rintro _ w ⟨a4, k5, c6, rfl, hS⟩
 have hs := hs.call1 hS
 clear hS
 refine ⟨_, rfl, fun a hk => ?_⟩
 refine q_v hk (w_mv rfl) fun a hk => ?_
 refine q_v hk (w_ext rfl rfl) fun a hk => ?_
 refine q_v hk (w_ext rfl rfl) fun a hk => ?_
 refine q_v hk (w_as rfl) fun a hk => ?_
 refine q_v hk (w_as rfl) fun a hk => ?_
 refine c_end (x_t (wS (wR ?_)))
 refine q_call (caps := []) hk rfl rfl Tryz.func40 fo40 rfl rfl (alive17_c _ (HL.step hs.toBelow)) ?_
 rintro _ w ⟨rfl, hb⟩
 have hs := hs.below hb
 refine ⟨_, rfl, fun a hk => ?_⟩
 refine q_v hk (w_mv rfl) fun a hk => ?_
 refine q_v hk (w_mv rfl) fun a hk => ?_
 refine q_v hk (w_mv rfl) fun a hk => ?_
 refine q_call (caps := []) hk rfl rfl Tryz.func46 fo46 rfl rfl (bytesEqQ _ a1 a4 k2 c3 k5 c6 _ _ (row_lst (hs.mi 1 rfl)) (row_lst (hs.mi 0 rfl)) rfl) ?_
 rintro _ _ ⟨rfl, rfl⟩
 refine ⟨_, rfl, fun a hk => ?_⟩
 refine q_v hk (w_pickT rfl rfl) fun a hk => ?_
 refine q_v hk (w_mv rfl) fun a hk => ?_
 refine q_v hk (w_mv rfl) fun a hk => ?_
 refine q_v hk (w_mv rfl) fun a hk => ?_
 refine q_v hk (w_eq rfl rfl (decide_eq_true rfl)) fun a hk => ?_
 refine q_v hk (w_pickT rfl rfl) fun a hk => ?_
 refine q_v hk (w_as rfl) fun a hk => ?_
 refine c_end (x_t ?_)
 refine (wpIn_ret ?_)
 refine c_ret1 hk rfl rfl ?_
 exact ⟨rfl, hs.toBelow⟩
theorem lawAt_big (m lc : Nat) (la : Option Addr) (S : Nat → Shr) (ix : Int) (W : World) (HS : (shareR la m lc S).ok W) (HL : Laid W) (hg : 0 < lrg S m) : Calls Tryz.prog 11 [.slice la m lc, .int .i64 ix].toArray W fun e w => e = .returned (.bool true) ∧ Below W.heap.size W w := by
 refine c_enter (args := [.slice la m lc, .int .i64 ix]) Tryz.func11 rfl rfl rfl fun a hk => ?_
 have hs := Sat.start W [shareR la m lc S] (okr1 HS)
 refine wS (wR ?_)
 refine q_v hk (w_as rfl) fun a hk => ?_
 refine c_end (x_t (wS (wS (wR ?_))))
 refine q_v hk (w_mv rfl) fun a hk => ?_
 refine q_call (caps := []) hk rfl rfl Tryz.func15 fo15 rfl rfl (large_c m lc la S _ ((HasR.nth 0 rfl : HasR (shareR la m lc S) _).at_ hs)) ?_
 rintro _ w ⟨rfl, hb⟩
 have hs := hs.below hb
 refine ⟨_, rfl, fun a hk => ?_⟩
 refine q_v hk (w_gt rfl rfl (decide_eq_true hg)) fun a hk => ?_
 refine c_end (x_t ?_)
 refine c_T hk rfl ?_
 refine wS (wR ?_)
 refine q_call (caps := []) hk rfl rfl Tryz.func40 fo40 rfl rfl (alive17_c _ (HL.step hs.toBelow)) ?_
 rintro _ w ⟨rfl, hb⟩
 have hs := hs.below hb
 refine ⟨_, rfl, fun a hk => ?_⟩
 refine q_v hk (w_as rfl) fun a hk => ?_
 refine c_end (x_t ?_)
 refine (wpIn_ret (x_tr ?_))
 refine c_ret1 hk rfl rfl ?_
 exact ⟨rfl, hs.toBelow⟩
theorem lawAt_bad (m lc : Nat) (la : Option Addr) (S : Nat → Shr) (ix : Int) (W : World) (HS : (shareR la m lc S).ok W) (HL : Laid W) (hg : ¬ 0 < lrg S m) (HO : ShOk S m) (hm : m ≤ 12) (hz : csErr S m ≠ 0) : Calls Tryz.prog 11 [.slice la m lc, .int .i64 ix].toArray W fun e w => e = .returned (.bool true) ∧ Below W.heap.size W w := by
 have hrg := csErr_rng S m
 refine c_enter (args := [.slice la m lc, .int .i64 ix]) Tryz.func11 rfl rfl rfl fun a hk => ?_
 have hs := Sat.start W [shareR la m lc S] (okr1 HS)
 refine wS (wR ?_)
 refine q_v hk (w_as rfl) fun a hk => ?_
 refine c_end (x_t (wS (wS (wR ?_))))
 refine q_v hk (w_mv rfl) fun a hk => ?_
 refine q_call (caps := []) hk rfl rfl Tryz.func15 fo15 rfl rfl (large_c m lc la S _ ((HasR.nth 0 rfl : HasR (shareR la m lc S) _).at_ hs)) ?_
 rintro _ w ⟨rfl, hb⟩
 have hs := hs.below hb
 refine ⟨_, rfl, fun a hk => ?_⟩
 refine q_v hk (w_gt rfl rfl (decide_eq_false hg)) fun a hk => ?_
 refine c_end (x_t ?_)
 refine c_F hk rfl ?_
 refine (wpIn_skip (x_t ?_))
 refine wS (wR ?_)
 refine q_v hk (w_mv rfl) fun a hk => ?_
 refine q_v hk (w_mv rfl) fun a hk => ?_
 refine q_call (caps := []) hk rfl rfl Tryz.func47 fo47 rfl rfl (atN_bad ((HasR.nth 0 rfl : HasR (shareR la m lc S) _).at_ hs) (HL.step hs.toBelow) HO ix hz) ?_
 rintro _ w ⟨rfl, hb⟩
 have hs := hs.below hb
 refine ⟨_, rfl, fun a hk => ?_⟩
 refine q_v hk (w_mv rfl) fun a hk => ?_
 refine q_v hk (w_ext rfl rfl) fun a hk => ?_
 refine q_v hk (w_ext rfl rfl) fun a hk => ?_
 refine q_alc (vs := [.int .i64 0, .int .i64 0, .int .i64 0, .int .i64 0, .slice none 0 0]) hk hs zr53 rfl rfl rfl fun b1 w a hk hs => ?_
 refine q_sto (o := 0) (cs := [.int .i64 0, .int .i64 0, .int .i64 0, .int .i64 0, .slice none 0 0]) (vs' := [.int .i64 0, .int .i64 0, .int .i64 0, .int .i64 0, .slice none 0 0]) hk hs rfl rfl rfl ty53 rfl rfl rfl rfl rfl rfl fun w hs => ?_
 refine q_v hk (w_as rfl) fun a hk => ?_
 refine c_end (x_t (wS (wR ?_)))
 refine q_v hk (w_mv rfl) fun a hk => ?_
 refine q_call (caps := []) hk rfl rfl Tryz.func18 fo18 rfl rfl (refCkShares_c m lc la S _ ((HasR.nth 0 rfl : HasR (shareR la m lc S) _).at_ hs) HO) ?_
 rintro _ w ⟨rfl, hb⟩
 have hs := hs.below hb
 refine ⟨_, rfl, fun a hk => ?_⟩
 refine q_v hk (w_as rfl) fun a hk => ?_
 refine c_end (x_t (wS (wS (wR ?_))))
 refine q_v hk (w_mv rfl) fun a hk => ?_
 refine q_v hk (w_eq rfl rfl (decide_eq_false hz)) fun a hk => ?_
 refine q_v hk (w_mv rfl) fun a hk => ?_
 refine q_skip hk rfl rfl fun a hk => ?_
 refine q_skip hk rfl rfl fun a hk => ?_
 refine q_skip hk rfl rfl fun a hk => ?_
 refine q_skip hk rfl rfl fun a hk => ?_
 refine q_skip hk rfl rfl fun a hk => ?_
 refine q_skip hk rfl rfl fun a hk => ?_
 refine q_v hk (w_pickF rfl rfl) fun a hk => ?_
 refine c_end (x_t ?_)
 refine c_F hk rfl ?_
 refine (wpIn_skip (x_t ?_))
 refine wS (wS (wR ?_))
 refine q_v hk (w_mv rfl) fun a hk => ?_
 refine q_v hk (w_ne rfl rfl (decide_eq_true hz)) fun a hk => ?_
 refine c_end (x_t ?_)
 refine c_T hk rfl ?_
 refine wS (wR ?_)
 refine q_call (caps := []) hk rfl rfl Tryz.func40 fo40 rfl rfl (alive17_c _ (HL.step hs.toBelow)) ?_
 rintro _ w ⟨rfl, hb⟩
 have hs := hs.below hb
 refine ⟨_, rfl, fun a hk => ?_⟩
 refine q_v hk (w_mv rfl) fun a hk => ?_
 refine q_v hk (w_ldA rfl ty53 (.blk (n := 5) (hs.mi 0 rfl) rfl) rfl) fun a hk => ?_
 refine q_bsl (els := [.tmp 35]) (cs := [.int .i64 0, .int .i64 0, .int .i64 0, .int .i64 0, .slice none 0 0]) hk hs rfl Tryz.underlying22 ty53 zr53 rfl rfl rfl rfl rfl rfl rfl fun b2 w a hk hs => ?_
 refine q_v hk (w_bld rfl fl53 zr53 rfl rfl) fun a hk => ?_
 refine q_bsl (els := [.tmp 37]) (cs := [.int .i64 0, .int .i64 0, .int .i64 0, .int .i64 0, .slice none 0 0]) hk hs rfl Tryz.underlying22 ty53 zr53 rfl rfl rfl rfl rfl rfl rfl fun b3 w a hk hs => ?_
 refine q_call (caps := []) hk rfl rfl Tryz.func48 fo48 rfl rfl (sameZ (hs.mi 1 rfl) (hs.mi 0 rfl)) ?_
 rintro _ w ⟨rfl, hb⟩
 have hs := hs.below hb
 refine ⟨_, rfl, fun a hk => ?_⟩
 refine q_v hk (w_pickT rfl rfl) fun a hk => ?_
 refine q_v hk (w_mv rfl) fun a hk => ?_
 refine q_v hk (w_mv rfl) fun a hk => ?_
 refine q_v hk (w_mv rfl) fun a hk => ?_
 refine q_v hk (w_eq rfl rfl (decide_eq_true rfl)) fun a hk => ?_
 refine q_v hk (w_pickT rfl rfl) fun a hk => ?_
 refine q_v hk (w_as rfl) fun a hk => ?_
 refine c_end (x_t ?_)
 refine (wpIn_ret (x_tr ?_))
 refine c_ret1 hk rfl rfl ?_
 exact ⟨rfl, hs.toBelow⟩
theorem lawAt_ix (s : Bool) (m lc : Nat) (la : Option Addr) (S : Nat → Shr) (ix : Int) (W : World) (HS : (shareR la m lc S).ok W) (HL : Laid W) (hg : ¬ 0 < lrg S m) (HO : ShOk S m) (hm : m ≤ 12) (g : Good s S m) (hz : csErr S m = 0) (hn9 : (S 0).n ≤ 4) (hix : ¬ (1 ≤ ix ∧ ix ≤ 255)) : Calls Tryz.prog 11 [.slice la m lc, .int .i64 ix].toArray W fun e w => e = .returned (.bool true) ∧ Below W.heap.size W w := by
 have hm0 := g.m0
 have hth := g.th_le
 refine c_enter (args := [.slice la m lc, .int .i64 ix]) Tryz.func11 rfl rfl rfl fun a hk => ?_
 have hs := Sat.start W [shareR la m lc S] (okr1 HS)
 refine wS (wR ?_)
 refine q_v hk (w_as rfl) fun a hk => ?_
 refine c_end (x_t (wS (wS (wR ?_))))
 refine q_v hk (w_mv rfl) fun a hk => ?_
 refine q_call (caps := []) hk rfl rfl Tryz.func15 fo15 rfl rfl (large_c m lc la S _ ((HasR.nth 0 rfl : HasR (shareR la m lc S) _).at_ hs)) ?_
 rintro _ w ⟨rfl, hb⟩
 have hs := hs.below hb
 refine ⟨_, rfl, fun a hk => ?_⟩
 refine q_v hk (w_gt rfl rfl (decide_eq_false hg)) fun a hk => ?_
 refine c_end (x_t ?_)
 refine c_F hk rfl ?_
 refine (wpIn_skip (x_t ?_))
 refine wS (wR ?_)
 refine q_v hk (w_mv rfl) fun a hk => ?_
 refine q_v hk (w_mv rfl) fun a hk => ?_
 refine q_call (caps := []) hk rfl rfl Tryz.func47 fo47 rfl rfl (atN_ix ((HasR.nth 0 rfl : HasR (shareR la m lc S) _).at_ hs) (HL.step hs.toBelow) HO g hz (by omega) ix hix) ?_
 rintro _ w ⟨rfl, hb⟩
 have hs := hs.below hb
 refine ⟨_, rfl, fun a hk => ?_⟩
 refine q_v hk (w_mv rfl) fun a hk => ?_
 refine q_v hk (w_ext rfl rfl) fun a hk => ?_
 refine q_v hk (w_ext rfl rfl) fun a hk => ?_
 refine q_alc (vs := [.int .i64 0, .int .i64 0, .int .i64 0, .int .i64 0, .slice none 0 0]) hk hs zr53 rfl rfl rfl fun b1 w a hk hs => ?_
 refine q_sto (o := 0) (cs := [.int .i64 0, .int .i64 0, .int .i64 0, .int .i64 0, .slice none 0 0]) (vs' := [.int .i64 0, .int .i64 0, .int .i64 0, .int .i64 0, .slice none 0 0]) hk hs rfl rfl rfl ty53 rfl rfl rfl rfl rfl rfl fun w hs => ?_
 refine q_v hk (w_as rfl) fun a hk => ?_
 refine c_end (x_t (wS (wR ?_)))
 refine q_v hk (w_mv rfl) fun a hk => ?_
 refine q_call (caps := []) hk rfl rfl Tryz.func18 fo18 rfl rfl (refCkShares_c m lc la S _ ((HasR.nth 0 rfl : HasR (shareR la m lc S) _).at_ hs) HO) ?_
 rintro _ w ⟨rfl, hb⟩
 have hs := hs.below hb
 refine ⟨_, rfl, fun a hk => ?_⟩
 refine q_v hk (w_as rfl) fun a hk => ?_
 refine c_end (x_t (wS (wS ?_)))
 rcases Classical.em (ix < 1) with hc2 | hc2
 ·
  refine wR ?_
  refine q_v hk (w_mv rfl) fun a hk => ?_
  refine q_v hk (w_eq rfl rfl (decide_eq_true hz)) fun a hk => ?_
  refine q_v hk (w_mv rfl) fun a hk => ?_
  refine q_v hk (w_mv rfl) fun a hk => ?_
  refine q_v hk (w_lt rfl rfl (decide_eq_true hc2)) fun a hk => ?_
  refine q_v hk (w_mv rfl) fun a hk => ?_
  refine q_skip hk rfl rfl fun a hk => ?_
  refine q_skip hk rfl rfl fun a hk => ?_
  refine q_v hk (w_pickT rfl rfl) fun a hk => ?_
  refine q_v hk (w_pickT rfl rfl) fun a hk => ?_
  refine c_end (x_t ?_)
  refine c_T hk rfl ?_
  refine wR ?_
  refine q_v hk (w_as rfl) fun a hk => ?_
  refine c_end (x_t (wS (wS (wR ?_))))
  refine q_v hk (w_mv rfl) fun a hk => ?_
  refine q_v hk (w_ne rfl rfl (decide_eq_true (by decide))) fun a hk => ?_
  refine c_end (x_t ?_)
  refine c_T hk rfl ?_
  refine wS (wR ?_)
  refine q_call (caps := []) hk rfl rfl Tryz.func40 fo40 rfl rfl (alive17_c _ (HL.step hs.toBelow)) ?_
  rintro _ w ⟨rfl, hb⟩
  have hs := hs.below hb
  refine ⟨_, rfl, fun a hk => ?_⟩
  refine q_v hk (w_mv rfl) fun a hk => ?_
  refine q_v hk (w_ldA rfl ty53 (.blk (n := 5) (hs.mi 0 rfl) rfl) rfl) fun a hk => ?_
  refine q_bsl (els := [.tmp 35]) (cs := [.int .i64 0, .int .i64 0, .int .i64 0, .int .i64 0, .slice none 0 0]) hk hs rfl Tryz.underlying22 ty53 zr53 rfl rfl rfl rfl rfl rfl rfl fun b3 w a hk hs => ?_
  refine q_v hk (w_bld rfl fl53 zr53 rfl rfl) fun a hk => ?_
  refine q_bsl (els := [.tmp 37]) (cs := [.int .i64 0, .int .i64 0, .int .i64 0, .int .i64 0, .slice none 0 0]) hk hs rfl Tryz.underlying22 ty53 zr53 rfl rfl rfl rfl rfl rfl rfl fun b4 w a hk hs => ?_
  refine q_call (caps := []) hk rfl rfl Tryz.func48 fo48 rfl rfl (sameZ (hs.mi 1 rfl) (hs.mi 0 rfl)) ?_
  rintro _ w ⟨rfl, hb⟩
  have hs := hs.below hb
  refine ⟨_, rfl, fun a hk => ?_⟩
  refine q_v hk (w_pickT rfl rfl) fun a hk => ?_
  refine q_v hk (w_mv rfl) fun a hk => ?_
  refine q_v hk (w_mv rfl) fun a hk => ?_
  refine q_v hk (w_mv rfl) fun a hk => ?_
  refine q_v hk (w_eq rfl rfl (decide_eq_true (by decide))) fun a hk => ?_
  refine q_v hk (w_pickT rfl rfl) fun a hk => ?_
  refine q_v hk (w_as rfl) fun a hk => ?_
  refine c_end (x_t ?_)
  refine (wpIn_ret (x_tr ?_))
  refine c_ret1 hk rfl rfl ?_
  exact ⟨rfl, hs.toBelow⟩
 ·
  refine wR ?_
  refine q_v hk (w_mv rfl) fun a hk => ?_
  refine q_v hk (w_eq rfl rfl (decide_eq_true hz)) fun a hk => ?_
  refine q_v hk (w_mv rfl) fun a hk => ?_
  refine q_v hk (w_mv rfl) fun a hk => ?_
  refine q_v hk (w_lt rfl rfl (decide_eq_false hc2)) fun a hk => ?_
  refine q_v hk (w_mv rfl) fun a hk => ?_
  refine q_v hk (w_mv rfl) fun a hk => ?_
  refine q_v hk (w_gt rfl rfl (decide_eq_true (by omega))) fun a hk => ?_
  refine q_v hk (w_pickF rfl rfl) fun a hk => ?_
  refine q_v hk (w_pickT rfl rfl) fun a hk => ?_
  refine c_end (x_t ?_)
  refine c_T hk rfl ?_
  refine wR ?_
  refine q_v hk (w_as rfl) fun a hk => ?_
  refine c_end (x_t (wS (wS (wR ?_))))
  refine q_v hk (w_mv rfl) fun a hk => ?_
  refine q_v hk (w_ne rfl rfl (decide_eq_true (by decide))) fun a hk => ?_
  refine c_end (x_t ?_)
  refine c_T hk rfl ?_
  refine wS (wR ?_)
  refine q_call (caps := []) hk rfl rfl Tryz.func40 fo40 rfl rfl (alive17_c _ (HL.step hs.toBelow)) ?_
  rintro _ w ⟨rfl, hb⟩
  have hs := hs.below hb
  refine ⟨_, rfl, fun a hk => ?_⟩
  refine q_v hk (w_mv rfl) fun a hk => ?_
  refine q_v hk (w_ldA rfl ty53 (.blk (n := 5) (hs.mi 0 rfl) rfl) rfl) fun a hk => ?_
  refine q_bsl (els := [.tmp 35]) (cs := [.int .i64 0, .int .i64 0, .int .i64 0, .int .i64 0, .slice none 0 0]) hk hs rfl Tryz.underlying22 ty53 zr53 rfl rfl rfl rfl rfl rfl rfl fun b5 w a hk hs => ?_
  refine q_v hk (w_bld rfl fl53 zr53 rfl rfl) fun a hk => ?_
  refine q_bsl (els := [.tmp 37]) (cs := [.int .i64 0, .int .i64 0, .int .i64 0, .int .i64 0, .slice none 0 0]) hk hs rfl Tryz.underlying22 ty53 zr53 rfl rfl rfl rfl rfl rfl rfl fun b6 w a hk hs => ?_
  refine q_call (caps := []) hk rfl rfl Tryz.func48 fo48 rfl rfl (sameZ (hs.mi 1 rfl) (hs.mi 0 rfl)) ?_
  rintro _ w ⟨rfl, hb⟩
  have hs := hs.below hb
  refine ⟨_, rfl, fun a hk => ?_⟩
  refine q_v hk (w_pickT rfl rfl) fun a hk => ?_
  refine q_v hk (w_mv rfl) fun a hk => ?_
  refine q_v hk (w_mv rfl) fun a hk => ?_
  refine q_v hk (w_mv rfl) fun a hk => ?_
  refine q_v hk (w_eq rfl rfl (decide_eq_true (by decide))) fun a hk => ?_
  refine q_v hk (w_pickT rfl rfl) fun a hk => ?_
  refine q_v hk (w_as rfl) fun a hk => ?_
  refine c_end (x_t ?_)
  refine (wpIn_ret (x_tr ?_))
  refine c_ret1 hk rfl rfl ?_
  exact ⟨rfl, hs.toBelow⟩
theorem lawAt_good (s : Bool) (m lc : Nat) (la : Option Addr) (S : Nat → Shr) (ix : Nat) (W : World) (HS : (shareR la m lc S).ok W) (HL : Laid W) (hg : ¬ 0 < lrg S m) (HO : ShOk S m) (hm : m ≤ 12) (g : Good s S m) (hz : csErr S m = 0) (hn9 : (S 0).n ≤ 4) (hi1 : 1 ≤ ix) (hi2 : ix ≤ 255) : Calls Tryz.prog 11 [.slice la m lc, .int .i64 ((ix : Nat) : Int)].toArray W fun e w => e = .returned (.bool true) ∧ Below W.heap.size W w := by
 have hm0 := g.m0
 have hth := g.th_le
 refine c_enter (args := [.slice la m lc, .int .i64 ((ix : Nat) : Int)]) Tryz.func11 rfl rfl rfl fun a hk => ?_
 have hs := Sat.start W [shareR la m lc S] (okr1 HS)
 refine wS (wR ?_)
 refine q_v hk (w_as rfl) fun a hk => ?_
 refine c_end (x_t (wS (wS (wR ?_))))
 refine q_v hk (w_mv rfl) fun a hk => ?_
 refine q_call (caps := []) hk rfl rfl Tryz.func15 fo15 rfl rfl (large_c m lc la S _ ((HasR.nth 0 rfl : HasR (shareR la m lc S) _).at_ hs)) ?_
 rintro _ w ⟨rfl, hb⟩
 have hs := hs.below hb
 refine ⟨_, rfl, fun a hk => ?_⟩
 refine q_v hk (w_gt rfl rfl (decide_eq_false hg)) fun a hk => ?_
 refine c_end (x_t ?_)
 refine c_F hk rfl ?_
 refine (wpIn_skip (x_t ?_))
 refine wS (wR ?_)
 refine q_v hk (w_mv rfl) fun a hk => ?_
 refine q_v hk (w_mv rfl) fun a hk => ?_
 refine q_call (caps := []) hk rfl rfl Tryz.func47 fo47 rfl rfl (atN ((HasR.nth 0 rfl : HasR (shareR la m lc S) _).at_ hs) (HL.step hs.toBelow) HO g hz (by omega) hn9 ix hi1 hi2) ?_
 rintro _ w ⟨a1, c2, rfl, hS⟩
 have hs := hs.call1 hS
 clear hS
 refine ⟨_, rfl, fun a hk => ?_⟩
 refine q_v hk (w_mv rfl) fun a hk => ?_
 refine q_v hk (w_ext rfl rfl) fun a hk => ?_
 refine q_v hk (w_ext rfl rfl) fun a hk => ?_
 refine q_alc (vs := [.int .i64 0, .int .i64 0, .int .i64 0, .int .i64 0, .slice none 0 0]) hk hs zr53 rfl rfl rfl fun b3 w a hk hs => ?_
 refine q_sto (o := 0) (cs := [.int .i64 ((S 0).F), .int .i64 ((S 0).T), .int .i64 ((ix : Nat) : Int), .int .i64 ((S 0).L), .slice a1 ((S 0).n) c2]) (vs' := [.int .i64 ((S 0).F), .int .i64 ((S 0).T), .int .i64 ((ix : Nat) : Int), .int .i64 ((S 0).L), .slice a1 ((S 0).n) c2]) hk hs rfl rfl rfl ty53 rfl rfl rfl rfl rfl rfl fun w hs => ?_
 refine q_v hk (w_as rfl) fun a hk => ?_
 refine c_end (x_t (wS (wR ?_)))
 refine q_v hk (w_mv rfl) fun a hk => ?_
 refine q_call (caps := []) hk rfl rfl Tryz.func18 fo18 rfl rfl (refCkShares_c m lc la S _ ((HasR.nth 0 rfl : HasR (shareR la m lc S) _).at_ hs) HO) ?_
 rintro _ w ⟨rfl, hb⟩
 have hs := hs.below hb
 refine ⟨_, rfl, fun a hk => ?_⟩
 refine q_v hk (w_as rfl) fun a hk => ?_
 refine c_end (x_t (wS (wS (wR ?_))))
 refine q_v hk (w_mv rfl) fun a hk => ?_
 refine q_v hk (w_eq rfl rfl (decide_eq_true hz)) fun a hk => ?_
 refine q_v hk (w_mv rfl) fun a hk => ?_
 refine q_v hk (w_mv rfl) fun a hk => ?_
 refine q_v hk (w_lt rfl rfl (decide_eq_false (by omega))) fun a hk => ?_
 refine q_v hk (w_mv rfl) fun a hk => ?_
 refine q_v hk (w_mv rfl) fun a hk => ?_
 refine q_v hk (w_gt rfl rfl (decide_eq_false (by omega))) fun a hk => ?_
 refine q_v hk (w_pickF rfl rfl) fun a hk => ?_
 refine q_v hk (w_pickT rfl rfl) fun a hk => ?_
 refine c_end (x_t ?_)
 refine c_F hk rfl ?_
 refine (wpIn_skip (x_t ?_))
 refine wS (wS (wR ?_))
 refine q_v hk (w_mv rfl) fun a hk => ?_
 refine q_v hk (w_ne rfl rfl (decide_eq_false (fun h => h hz))) fun a hk => ?_
 refine c_end (x_t ?_)
 refine c_F hk rfl ?_
 refine (wpIn_skip (x_t ?_))
 refine wS ?_
 have hL := okL.cons ((share_lst (HasR.nth 0 rfl : HasR (shareR la m lc S) _)).at_ hs) okL.nil
 refine d_begin _ 16 (by kernel_rfl) rfl hs hL fun w hs hL => ?_
 refine d_w 0 1 hk hL rfl (fun w hL => w_mv rfl) fun a hk => ?_
 refine d_w 1 3 hk hL rfl (fun w hL => w_iaL (k := 0) rfl rfl Tryz.underlying22 ty53 (hL.at 0 rfl) (by omega) (by omega)) fun a hk => ?_
 refine d_w 2 7 hk hL rfl (fun w hL => w_fa rfl fq53_0 ty3) fun a hk => ?_
 refine d_w 3 15 hk hL rfl (fun w hL => w_ld1 rfl ty3 (lstf (k := 0) (o := 0) (m := 1) (hL.at 0 rfl) (by omega) (en_chunk shc_len (by omega)) rfl)) fun a hk => ?_
 refine d_w 4 31 hk hL rfl (fun w hL => w_mv rfl) fun a hk => ?_
 refine d_w 5 63 hk hL rfl (fun w hL => w_iaL (k := 0) rfl rfl Tryz.underlying22 ty53 (hL.at 0 rfl) (by omega) (by omega)) fun a hk => ?_
 refine d_w 6 127 hk hL rfl (fun w hL => w_fa rfl fq53_1 ty3) fun a hk => ?_
 refine d_w 7 255 hk hL rfl (fun w hL => w_ld1 rfl ty3 (lstf (k := 0) (o := 1) (m := 1) (hL.at 0 rfl) (by omega) (en_chunk shc_len (by omega)) rfl)) fun a hk => ?_
 refine d_w 8 511 hk hL rfl (fun w hL => w_mv rfl) fun a hk => ?_
 refine d_w 9 1023 hk hL rfl (fun w hL => w_mv rfl) fun a hk => ?_
 refine d_w 10 2047 hk hL rfl (fun w hL => w_iaL (k := 0) rfl rfl Tryz.underlying22 ty53 (hL.at 0 rfl) (by omega) (by omega)) fun a hk => ?_
 refine d_w 11 4095 hk hL rfl (fun w hL => w_fa rfl fq53_3 ty3) fun a hk => ?_
 refine d_w 12 8191 hk hL rfl (fun w hL => w_ld1 rfl ty3 (lstf (k := 0) (o := 3) (m := 1) (hL.at 0 rfl) (by omega) (en_chunk shc_len (by omega)) rfl)) fun a hk => ?_
 refine d_w 13 16383 hk hL rfl (fun w hL => w_bld rfl fl53 zr53 rfl rfl) fun a hk => ?_
 refine d_1 14 32767 rfl (by kernel_rfl) fun K hK => ?_
 refine q_alc (vs := [.int .i64 0, .int .i64 0, .int .i64 0, .int .i64 0, .slice none 0 0]) hk hs zr53 rfl rfl rfl fun b1_14 w a hk hs => ?_
 have hL := okL.cons ((share_lst (HasR.nth 0 rfl : HasR (shareR la m lc S) _)).at_ hs) okL.nil
 refine c_end (x_t (hK _ _ hL ?_))
 clear hK K
 refine d_1 15 65535 rfl (by kernel_rfl) fun K hK => ?_
 refine q_sto (o := 0) (cs := [.int .i64 ((S 0).F), .int .i64 ((S 0).T), .int .i64 ((ix : Nat) : Int), .int .i64 ((S 0).L), .slice none 0 0]) (vs' := [.int .i64 ((S 0).F), .int .i64 ((S 0).T), .int .i64 ((ix : Nat) : Int), .int .i64 ((S 0).L), .slice none 0 0]) hk hs rfl rfl rfl ty53 rfl rfl rfl rfl rfl rfl fun w hs => ?_
 have hL := okL.cons ((share_lst (HasR.nth 0 rfl : HasR (shareR la m lc S) _)).at_ hs) okL.nil
 refine c_end (x_t (hK _ _ hL ?_))
 clear hK K
 refine d_end (by kernel_rfl) ?_
 refine (x_t ?_)
 refine wS (wR ?_)
 refine q_v hk (w_fa rfl fq53_0 ty3) fun a hk => ?_
 refine q_v hk (w_ld1 rfl ty3 (.blk (n := 1) (hs.mi 0 rfl) rfl)) fun a hk => ?_
 refine q_call (caps := []) hk rfl rfl Tryz.func28 fo28 rfl rfl (rmodulus_z (g.F 0 g.m0) _) ?_
 rintro _ w ⟨rfl, hb⟩
 have hs := hs.below hb
 refine ⟨_, rfl, fun a hk => ?_⟩
 refine q_v hk (w_mv rfl) fun a hk => ?_
 refine q_call (caps := []) hk rfl rfl Tryz.func50 fo50 rfl rfl (rpoly_c s m lc la S _ ((HasR.nth 0 rfl : HasR (shareR la m lc S) _).at_ hs) g (by omega) hn9) ?_
 rintro _ w ⟨ob4, a5, c6, rfl, hS⟩
 have hs := hs.call2 hS
 clear hS
 refine ⟨_, rfl, fun a hk => ?_⟩
 refine q_v hk (w_mv rfl) fun a hk => ?_
 refine q_call (caps := []) hk rfl rfl Tryz.func49 fo49 rfl rfl (rpay_c s (S 0).n c6 (thN S) ix a5 _ (polF s S (thN S)) _ (row_lst (hs.mi 0 rfl)) (hs.mi 1 rfl) hi2 (by omega) (by omega)) ?_
 rintro _ w ⟨a7, c8, rfl, hS⟩
 have hs := hs.call1 hS
 clear hS
 refine ⟨_, rfl, fun a hk => ?_⟩
 refine q_v hk (w_fa rfl fq53_4 ty51) fun a hk => ?_
 have hs := hs.up3
 refine q_sto (o := 4) (cs := [.slice a7 ((S 0).n) c8]) (vs' := [.int .i64 ((S 0).F), .int .i64 ((S 0).T), .int .i64 ((ix : Nat) : Int), .int .i64 ((S 0).L), .slice a7 ((S 0).n) c8]) hk hs rfl rfl rfl ty51 rfl rfl rfl rfl rfl rfl fun w hs => ?_
 refine c_end (x_t (wS (wR ?_)))
 refine q_call (caps := []) hk rfl rfl Tryz.func40 fo40 rfl rfl (alive17_c _ (HL.step hs.toBelow)) ?_
 rintro _ w ⟨rfl, hb⟩
 have hs := hs.below hb
 refine ⟨_, rfl, fun a hk => ?_⟩
 refine q_v hk (w_mv rfl) fun a hk => ?_
 refine q_v hk (w_mv rfl) fun a hk => ?_
 refine q_v hk (w_eq rfl rfl (decide_eq_true (by decide))) fun a hk => ?_
 refine q_v hk (w_pickT rfl rfl) fun a hk => ?_
 refine q_v hk (w_mv rfl) fun a hk => ?_
 refine q_v hk (w_ldA rfl ty53 (.blk (n := 5) (hs.mi 4 rfl) rfl) rfl) fun a hk => ?_
 refine q_bsl (els := [.tmp 74]) (cs := [.int .i64 ((S 0).F), .int .i64 ((S 0).T), .int .i64 ((ix : Nat) : Int), .int .i64 ((S 0).L), .slice a1 ((S 0).n) c2]) hk hs rfl Tryz.underlying22 ty53 zr53 rfl rfl rfl rfl rfl rfl rfl fun b9 w a hk hs => ?_
 refine q_v hk (w_ldA rfl ty53 (.blk (n := 5) (hs.mi 1 rfl) rfl) rfl) fun a hk => ?_
 refine q_bsl (els := [.tmp 76]) (cs := [.int .i64 ((S 0).F), .int .i64 ((S 0).T), .int .i64 ((ix : Nat) : Int), .int .i64 ((S 0).L), .slice a7 ((S 0).n) c8]) hk hs rfl Tryz.underlying22 ty53 zr53 rfl rfl rfl rfl rfl rfl rfl fun b10 w a hk hs => ?_
 refine q_call (caps := []) hk rfl rfl Tryz.func48 fo48 rfl rfl (sameAt (q1 := a1) (q2 := a7) (c1 := c2) (c2 := c8) (ix := ix) g hn9 (hs.mi 1 rfl) (hs.mi 0 rfl) (row_lst (hs.mi 7 rfl)) (row_lst (hs.mi 3 rfl))) ?_
 rintro _ w ⟨rfl, hb⟩
 have hs := hs.below hb
 refine ⟨_, rfl, fun a hk => ?_⟩
 refine q_v hk (w_pickT rfl rfl) fun a hk => ?_
 refine q_v hk (w_as rfl) fun a hk => ?_
 refine c_end (x_t ?_)
 refine (wpIn_ret ?_)
 refine c_ret1 hk rfl rfl ?_
 exact ⟨rfl, hs.toBelow⟩
section
variable (W : World) (la : Option Addr) (m lc : Nat) (S : Nat → Shr) (hx : ∀ k, k < m → ∀ i, i < (S k).n → (S k).X i < R4) (HS : (shareR la m lc S).ok W) (HL : Laid W)
include hx HS HL
theorem lawVal_c : Calls Tryz.prog 9 #[.slice la m lc] W fun e w => e = .returned (.bool true) ∧ Below W.heap.size W w := by
  by_cases hg : 0 < lrg S m
  · exact lawVal_big m lc la S W HS HL hg
  · have h := lrg_le hg
    by_cases hz : csErr S m = 0
    · obtain ⟨s, g⟩ := good_of hz
      exact lawVal_good s m lc la S W HS HL hg (shok_of h hx) h.1 g hz (h.2 0 g.m0)
    · exact lawVal_bad m lc la S W HS HL hg (shok_of h hx) h.1 hz
theorem lawCom_c : Calls Tryz.prog 10 #[.slice la m lc] W fun e w => e = .returned (.bool true) ∧ Below W.heap.size W w := by
  by_cases hg : 0 < lrg S m
  · exact lawCom_big m lc la S W HS HL hg
  · have h := lrg_le hg
    by_cases hz : csErr S m = 0
    · obtain ⟨s, g⟩ := good_of hz
      exact lawCom_good s m lc la S W HS HL hg (shok_of h hx) h.1 g hz (h.2 0 g.m0)
    · exact lawCom_bad m lc la S W HS HL hg (shok_of h hx) h.1 hz
theorem lawAt_c (ix : Int) : Calls Tryz.prog 11 #[.slice la m lc, .int .i64 ix] W fun e w => e = .returned (.bool true) ∧ Below W.heap.size W w := by
  by_cases hg : 0 < lrg S m
  · exact lawAt_big m lc la S ix W HS HL hg
  · have h := lrg_le hg
    by_cases hz : csErr S m = 0
    · obtain ⟨s, g⟩ := good_of hz
      by_cases hix : 1 ≤ ix ∧ ix ≤ 255
      · obtain ⟨k, rfl⟩ : ∃ k : Nat, ix = k := ⟨ix.toNat, by omega⟩
        exact lawAt_good s m lc la S k W HS HL hg (shok_of h hx) h.1 g hz (h.2 0 g.m0) (by omega) (by omega)
      · exact lawAt_ix s m lc la S ix W HS HL hg (shok_of h hx) h.1 g hz (h.2 0 g.m0) hix
    · exact lawAt_bad m lc la S ix W HS HL hg (shok_of h hx) h.1 hz
end
end Go.Proofs.YtdnkkbmpefhbjaaGreatDoor
namespace Go.Proofs.YtdnkkbmpefhbjaaGreatDoor
set_option linter.all false
open Go Go.ChangeShapes Go.WideShapes Go.ChangeAt Go.WideMaps Go.WideElems Go.RowKit
theorem own : ownKnob Tryz.prog.godebug = none := by kernel_rfl
theorem laidOut : laidOutB Tryz.prog = true := by kernel_rfl
theorem gFields : Tryz.prog.globalNamed "sharecore/field.fields" = some 0 := by kernel_rfl
theorem tFields : (Tryz.prog.globals[0]?).map (·.type) = some 168 := by kernel_rfl
theorem cells64 : Tryz.prog.cellsOf 46 = 1 := by kernel_rfl
theorem cellsInt : Tryz.prog.cellsOf 3 = 1 := by kernel_rfl
theorem cellsVec : Tryz.prog.cellsOf 47 = 4 := by kernel_rfl
theorem cellsElem : Tryz.prog.cellsOf 56 = 4 := by kernel_rfl
theorem cellsField : Tryz.prog.cellsOf 120 = 14 := by kernel_rfl
theorem cellsFields : Tryz.prog.cellsOf 168 = 28 := by kernel_rfl
section
variable {H : Type} {enc : TypeId × Value → H} {w : World} {base : Nat} {spare : Nat → Bool} {held : Bool} {n : Nat} {cs : List Value} {ps : List MemPlace}
set_option maxRecDepth 100000 in
theorem four_of {T : TypeId} {d : DataW H} (hT : Tryz.prog.underlying T = some (.array 4 46)) (hc : Tryz.prog.cellsOf T = 4) (h : DataW.trod enc Tryz.prog w base spare held n T cs = some (d, ps)) :
    ∃ a0 a1 a2 a3 : Int, cs = [.int .u64 a0, .int .u64 a1, .int .u64 a2, .int .u64 a3] ∧ d = .agg [.lit (.int .u64 a0), .lit (.int .u64 a1), .lit (.int .u64 a2), .lit (.int .u64 a3)] ∧
      (Lit.int .u64 a0).wf = true ∧ (Lit.int .u64 a1).wf = true ∧ (Lit.int .u64 a2).wf = true ∧ (Lit.int .u64 a3).wf = true := by
  obtain ⟨xs, m, rfl, hx, hlen, hn, hel⟩ := DataW.trod_array hT h
  rw [hc] at hlen
  match cs, hlen with
  | [c0, c1, c2, c3], _ =>
    match xs, hn with
    | [x0, x1, x2, x3], _ =>
      have e0 := hel 0 (by omega)
      have e1 := hel 1 (by omega)
      have e2 := hel 2 (by omega)
      have e3 := hel 3 (by omega)
      rw [cells64] at e0 e1 e2 e3
      simp only [Nat.mul_one, List.drop_zero, List.drop_succ_cons, List.take_succ_cons, List.take_zero, List.getElem?_cons_zero, List.getElem?_cons_succ] at e0 e1 e2 e3
      obtain ⟨k0, f0, g0, w0⟩ := DataW.trod_int Tryz.underlying46 e0
      obtain ⟨k1, f1, g1, w1⟩ := DataW.trod_int Tryz.underlying46 e1
      obtain ⟨k2, f2, g2, w2⟩ := DataW.trod_int Tryz.underlying46 e2
      obtain ⟨k3, f3, g3, w3⟩ := DataW.trod_int Tryz.underlying46 e3
      subst g0 g1 g2 g3
      simp only [List.cons.injEq, and_true] at f0 f1 f2 f3
      subst f0 f1 f2 f3
      simp only [Prod.mk.injEq] at hx
      exact ⟨k0, k1, k2, k3, rfl, hx.1, w0, w1, w2, w3⟩
set_option maxRecDepth 100000 in
theorem field_of {i i' p0 p1 p2 p3 v o0 o1 o2 o3 s0 s1 s2 s3 : Int} (h : DataW.trod enc Tryz.prog w base spare held n 120 cs = some (.agg [.lit (.int .i64 i), .agg [.lit (.int .u64 p0), .lit (.int .u64 p1), .lit (.int .u64 p2), .lit (.int .u64 p3)], .lit (.int .u64 v), .agg [.lit (.int .u64 o0), .lit (.int .u64 o1), .lit (.int .u64 o2), .lit (.int .u64 o3)], .agg [.lit (.int .u64 s0), .lit (.int .u64 s1), .lit (.int .u64 s2), .lit (.int .u64 s3)]], ps)) (_hi : i' = i) :
    cs = [.int .i64 i, .int .u64 p0, .int .u64 p1, .int .u64 p2, .int .u64 p3, .int .u64 v, .int .u64 o0, .int .u64 o1, .int .u64 o2, .int .u64 o3, .int .u64 s0, .int .u64 s1, .int .u64 s2, .int .u64 s3] := by
  obtain ⟨xs, m, rfl, hx, hlen, hn, hel⟩ := DataW.trod_struct Tryz.underlying120 h
  rw [cellsField] at hlen
  match cs, hlen with
  | [c0, c1, c2, c3, c4, c5, c6, c7, c8, c9, c10, c11, c12, c13], _ =>
    match xs, hn with
    | [x0, x1, x2, x3, x4], _ =>
      have e0 := hel 0 { name := "ID", type := 3, offset := 0, embedded := false, tag := "", pkgPath := "", byteOffset := 0 } rfl
      have e1 := hel 1 { name := "Modulus", type := 47, offset := 1, embedded := false, tag := "", pkgPath := "", byteOffset := 8 } rfl
      have e2 := hel 2 { name := "Inverse", type := 46, offset := 5, embedded := false, tag := "", pkgPath := "", byteOffset := 40 } rfl
      have e3 := hel 3 { name := "One", type := 56, offset := 6, embedded := false, tag := "", pkgPath := "", byteOffset := 48 } rfl
      have e4 := hel 4 { name := "Square", type := 47, offset := 10, embedded := false, tag := "", pkgPath := "", byteOffset := 80 } rfl
      simp only [cells64, cellsInt, cellsVec, cellsElem, List.drop_zero, List.drop_succ_cons, List.take_succ_cons, List.take_zero, List.getElem?_cons_zero, List.getElem?_cons_succ] at e0 e1 e2 e3 e4
      obtain ⟨k0, f0, g0, _⟩ := DataW.trod_int Tryz.underlying3 e0
      obtain ⟨k2, f2, g2, _⟩ := DataW.trod_int Tryz.underlying46 e2
      obtain ⟨x1, r1⟩ := x1
      obtain ⟨x3, r3⟩ := x3
      obtain ⟨x4, r4⟩ := x4
      obtain ⟨a0, a1, a2, a3, f1, g1, _⟩ := four_of Tryz.underlying47 cellsVec e1
      obtain ⟨b0, b1, b2, b3, f3, g3, _⟩ := four_of Tryz.underlying56 cellsElem e3
      obtain ⟨d0, d1, d2, d3, f4, g4, _⟩ := four_of Tryz.underlying47 cellsVec e4
      subst g0 g1 g2 g3 g4
      simp only [List.cons.injEq, and_true] at f0 f2
      simp only [List.cons.injEq, and_true] at f1
      simp only [List.cons.injEq, and_true] at f3
      simp only [List.cons.injEq, and_true] at f4
      simp only [Prod.mk.injEq, List.map_cons, List.map_nil, DataW.agg.injEq, List.cons.injEq, DataW.lit.injEq, Lit.int.injEq, true_and, and_true] at hx
      obtain ⟨⟨rfl, ⟨rfl, rfl, rfl, rfl⟩, rfl, ⟨rfl, rfl, rfl, rfl⟩, rfl, rfl, rfl, rfl⟩, _⟩ := hx
      obtain ⟨rfl, rfl, rfl, rfl⟩ := f1
      obtain ⟨rfl, rfl, rfl, rfl⟩ := f3
      obtain ⟨rfl, rfl, rfl, rfl⟩ := f4
      subst f0 f2
      rfl
end
theorem of_laid {W : World} (h : laidMetH Tryz.prog [("sharecore/field.fields", Rows.laid_sharecore_field_fields)] W) : Laid W := by
  rw [MakeChecks.laidMetH_plain _ _ _ (by kernel_rfl)] at h
  obtain ⟨ps, ⟨g0, t0, cs0, f0, p0, q0, hg0, ht0, hv0, hd0, _, _⟩, _, _⟩ := h
  obtain rfl := Option.some.inj (gFields.symm.trans hg0)
  obtain rfl := Option.some.inj (tFields.symm.trans ht0)
  have key : cs0.toList = fieldCells.toList := by
    obtain ⟨xs, m, rfl, hx, hlen, hn, hel⟩ := DataW.trod_array Tryz.underlying168 hd0
    rw [cellsFields] at hlen
    match xs, hn with
    | [x0, x1], _ =>
      have e0 := hel 0 (by omega)
      have e1 := hel 1 (by omega)
      simp only [cellsField, Nat.zero_mul, Nat.one_mul, List.drop_zero, List.getElem?_cons_zero, List.getElem?_cons_succ] at e0 e1
      obtain ⟨x0, r0⟩ := x0
      obtain ⟨x1, r1⟩ := x1
      unfold Rows.laid_sharecore_field_fields at hx
      simp only [Prod.mk.injEq, List.map_cons, List.map_nil, DataW.agg.injEq, List.cons.injEq, and_true] at hx
      obtain ⟨⟨rfl, rfl⟩, _⟩ := hx
      have k0 := field_of e0 rfl
      have k1 := field_of e1 rfl
      rw [List.take_of_length_le (by rw [List.length_drop, hlen]; omega)] at k1
      rw [← List.take_append_drop 14 cs0.toList, k0, k1]
      rfl
  have key' : cs0 = fieldCells := by rw [← Array.toArray_toList (xs := cs0), key]
  intro j v hv
  rw [World.var?_cell hg0 hv0 j, key']
  exact hv
theorem wf64 {a : Int} (h : (Lit.int .u64 a).wf = true) : ∃ n : Nat, a = (n : Int) ∧ n < W := by
  have := bounds_u64 h
  exact ⟨a.toNat, by omega, by unfold W; omega⟩
theorem lt_of {H : Type} {enc : TypeId × Value → H} {w : World} {spare : Nat → Bool} {held : Bool} {T : TypeId} {v : Value} {d : DataW H} {p : List MemPlace} (h : DataW.Trod enc Tryz.prog w 0 spare held T v d p) : ∀ x ∈ p, x.block < w.heap.size := by
  obtain ⟨m, hm⟩ := h
  exact DataW.trod_lt m _ _ _ hm
end Go.Proofs.YtdnkkbmpefhbjaaGreatDoor
namespace Go.Proofs.YtdnkkbmpefhbjaaGreatDoor
set_option linter.all false
open Go Go.ChangeShapes Go.WideShapes Go.ChangeAt Go.WideMaps Go.WideElems Go.RowKit
theorem cellsShare : Tryz.prog.cellsOf 53 = 5 := by kernel_rfl
theorem cellsEls : Tryz.prog.cellsOf 51 = 1 := by kernel_rfl
section
variable {H : Type} {enc : TypeId × Value → H} {w : World} {held : Bool} {P : Program}
theorem cells_at {b : Nat} {q : Addr} {n : Nat} {cs : List Value} (h : w.cells? b q n = some cs) : cs.length = n ∧ ∀ j u, cs[j]? = some u → w.cell? (q.add j) = some u := by
  obtain ⟨_, h1, h2⟩ := World.cells?_some h
  refine ⟨h1, fun j u hj => ?_⟩
  rw [h2 j (by have := (List.getElem?_eq_some_iff.1 hj).1; omega), hj]
/-- A slice whose elements are each read as the cells of something. -/
theorem open_lst {α : Type} {c : α → List Value} {sz : Nat} {φ : α → Prop} {T te : TypeId} (hT : P.underlying T = some (.slice te)) (hc : P.cellsOf te = sz) (hs : 0 < sz) (hlen : ∀ x, (c x).length = sz) (d0 : α)
    (hel : ∀ fuel cs d p, DataW.trod enc P w 0 (fun _ => true) held fuel te cs = some (d, p) → ∃ x, φ x ∧ cs = c x) {a : Option Addr} {n cap : Nat} {d : DataW H} {p : List MemPlace}
    (h : DataW.Trod enc P w 0 (fun _ => true) held T (.slice a n cap) d p) : ∃ f : Nat → α, (∀ i, i < n → φ (f i)) ∧ LstAt w sz (.slice a n cap) n (en c f n) := by
  subst hc
  obtain ⟨fuel, hf⟩ := h
  rcases DataW.trod_slice hT hf with ⟨e, _⟩ | ⟨ad, len, cap', elems, rest, m, _, e, _, _, hl, _, hel1, hel2, _⟩
  · have e' : ([Value.slice a n cap] : List Value) = [.slice none 0 0] := e
    simp only [List.cons.injEq, Value.slice.injEq, and_true] at e'
    obtain ⟨rfl, rfl, rfl⟩ := e'
    exact ⟨fun _ => d0, fun i hi => (by omega), ⟨by simp [en], none, 0, rfl, Nat.le_refl _, fun _ => ⟨rfl, rfl⟩, fun ad h => by cases h⟩⟩
  · have e' : ([Value.slice a n cap] : List Value) = [.slice (some ad) len cap'] := e
    simp only [List.cons.injEq, Value.slice.injEq, and_true] at e'
    obtain ⟨rfl, rfl, rfl⟩ := e'
    have key : ∀ i, ∃ x, i < n → φ x ∧ ∀ j u, (c x)[j]? = some u → w.cell? ((ad.add (i * P.cellsOf te)).add j) = some u := by
      intro i
      by_cases hi : i < n
      · have h1 := hel2 i hi
        cases hcs : w.cells? 0 (ad.add (i * P.cellsOf te)) (P.cellsOf te) with
        | none =>
          rw [hcs, Option.bind_none, List.getElem?_eq_getElem (by omega)] at h1
          cases h1
        | some cs =>
          rw [hcs, Option.bind_some, List.getElem?_eq_getElem (by omega)] at h1
          obtain ⟨x, hx, rfl⟩ := hel _ _ _ _ h1
          exact ⟨x, fun _ => ⟨hx, (cells_at hcs).2⟩⟩
      · exact ⟨d0, fun h => absurd h hi⟩
    refine ⟨fun i => Classical.choose (key i), fun i hi => (Classical.choose_spec (key i) hi).1, ?_⟩
    have hcell : ∀ i, i < n → ∀ j u, (c (Classical.choose (key i)))[j]? = some u → w.cell? ((ad.add (i * P.cellsOf te)).add j) = some u := fun i hi => (Classical.choose_spec (key i) hi).2
    generalize hF : (fun i => Classical.choose (key i)) = f
    have hcell' : ∀ i, i < n → ∀ j u, (c (f i))[j]? = some u → w.cell? ((ad.add (i * P.cellsOf te)).add j) = some u := by subst hF; exact hcell
    clear hcell
    refine ⟨en_len hlen, some ad, cap, rfl, hl, (fun h => by cases h), fun q hq hn => ?_⟩
    cases hq
    have h0 : w.cell? ad = some ((c (f 0))[0]'(by rw [hlen]; exact hs)) := by
      have := hcell' 0 hn 0 _ (List.getElem?_eq_getElem (by rw [hlen]; exact hs))
      rw [Nat.zero_mul] at this
      exact this
    have hspot : ad.spot = none := by simpa using World.cell?_spot h0
    refine ⟨hspot, World.block_lt_of_cell? w _ h0, fun j u hj => ?_⟩
    have hjl := (List.getElem?_eq_some_iff.1 hj).1
    rw [en_len hlen] at hjl
    have hi : j / P.cellsOf te < n := (Nat.div_lt_iff_lt_mul hs).2 hjl
    have hch := en_chunk (c := c) (f := f) hlen hi
    have h2 := congrArg (fun l => l[j % P.cellsOf te]?) hch
    simp only [List.getElem?_take, List.getElem?_drop] at h2
    rw [if_pos (Nat.mod_lt _ hs), show j / P.cellsOf te * P.cellsOf te + j % P.cellsOf te = j by rw [Nat.mul_comm]; exact Nat.div_add_mod j _, hj] at h2
    have := hcell' _ hi _ u h2.symm
    rw [add_add hspot, show j / P.cellsOf te * P.cellsOf te + j % P.cellsOf te = j by rw [Nat.mul_comm]; exact Nat.div_add_mod j _] at this
    exact this
/-- A slice of elements. -/
theorem open_els {a : Option Addr} {n cap : Nat} {d : DataW H} {p : List MemPlace} (h : DataW.Trod enc Tryz.prog w 0 (fun _ => true) held 51 (.slice a n cap) d p) :
    ∃ f : Nat → Nat, (∀ i, i < n → f i < R4) ∧ LstAt w 4 (.slice a n cap) n (en vq f n) :=
  open_lst (φ := fun x => x < R4) Tryz.underlying51 cellsElem (by decide) vq_len 0 (fun fuel cs d p hf => by
    obtain ⟨a0, a1, a2, a3, e, _, w0, w1, w2, w3⟩ := four_of Tryz.underlying56 cellsElem hf
    obtain ⟨n0, rfl, l0⟩ := wf64 w0
    obtain ⟨n1, rfl, l1⟩ := wf64 w1
    obtain ⟨n2, rfl, l2⟩ := wf64 w2
    obtain ⟨n3, rfl, l3⟩ := wf64 w3
    refine ⟨val4 n0 n1 n2 n3, val4_lt l0 l1 l2 l3, ?_⟩
    rw [e]
    have := vec_val4 l0 l1 l2 l3
    unfold vec at this
    have := congrArg (fun v => match v with | Value.agg xs => xs.toList | _ => []) this
    simpa [vq] using this.symm) h
set_option maxRecDepth 100000 in
theorem shr_of {fuel : Nat} {cs : List Value} {d : DataW H} {p : List MemPlace} (hf : DataW.trod enc Tryz.prog w 0 (fun _ => true) held fuel 53 cs = some (d, p)) :
    ∃ x : Shr, ((∀ i, i < x.n → x.X i < R4) ∧ (payR x).ok w) ∧ cs = shc x := by
  obtain ⟨xs, m, rfl, hx, hlen, hn, hel⟩ := DataW.trod_struct Tryz.underlying53 hf
  rw [cellsShare] at hlen
  match cs, hlen with
  | [c0, c1, c2, c3, c4], _ =>
    match xs, hn with
    | [x0, x1, x2, x3, x4], _ =>
      have e0 := hel 0 { name := "Field", type := 3, offset := 0, embedded := false, tag := "", pkgPath := "", byteOffset := 0 } rfl
      have e1 := hel 1 { name := "Threshold", type := 3, offset := 1, embedded := false, tag := "", pkgPath := "", byteOffset := 8 } rfl
      have e2 := hel 2 { name := "Index", type := 3, offset := 2, embedded := false, tag := "", pkgPath := "", byteOffset := 16 } rfl
      have e3 := hel 3 { name := "Length", type := 3, offset := 3, embedded := false, tag := "", pkgPath := "", byteOffset := 24 } rfl
      have e4 := hel 4 { name := "Payload", type := 51, offset := 4, embedded := false, tag := "", pkgPath := "", byteOffset := 32 } rfl
      simp only [cellsInt, cellsEls, List.drop_zero, List.drop_succ_cons, List.take_succ_cons, List.take_zero, List.getElem?_cons_zero, List.getElem?_cons_succ] at e0 e1 e2 e3 e4
      obtain ⟨x4, r4⟩ := x4
      obtain ⟨F, f0, _, _⟩ := DataW.trod_int Tryz.underlying3 e0
      obtain ⟨T, f1, _, _⟩ := DataW.trod_int Tryz.underlying3 e1
      obtain ⟨I, f2, _, _⟩ := DataW.trod_int Tryz.underlying3 e2
      obtain ⟨L, f3, _, _⟩ := DataW.trod_int Tryz.underlying3 e3
      simp only [List.cons.injEq, and_true] at f0 f1 f2 f3
      subst f0 f1 f2 f3
      have hsl : ∃ a n c, c4 = .slice a n c := by
        rcases DataW.trod_slice Tryz.underlying51 e4 with ⟨e, _⟩ | ⟨ad, len, cap', elems, rest, m, _, e, _⟩
        · simp only [List.cons.injEq, and_true] at e; exact ⟨_, _, _, e⟩
        · simp only [List.cons.injEq, and_true] at e; exact ⟨_, _, _, e⟩
      obtain ⟨a, n, c, rfl⟩ := hsl
      obtain ⟨X, h4, hL⟩ := open_els (a := a) (n := n) (cap := c) ⟨_, e4⟩
      exact ⟨⟨F, T, I, L, n, X, a, c⟩, ⟨h4, hL⟩, rfl⟩
def shz : Shr := ⟨0, 0, 0, 0, 0, fun _ => 0, none, 0⟩
/-- Shares that came in. -/
theorem open_shares {a : Option Addr} {n cap : Nat} {d : DataW H} {p : List MemPlace} (h : DataW.Trod enc Tryz.prog w 0 (fun _ => true) held 22 (.slice a n cap) d p) :
    ∃ S : Nat → Shr, (∀ k, k < n → ∀ i, i < (S k).n → (S k).X i < R4) ∧ (shareR a n cap S).ok w := by
  obtain ⟨f, h1, h2⟩ := open_lst (c := shc) Tryz.underlying22 cellsShare (by decide) shc_len shz (fun fuel cs d p hf => shr_of hf) h
  refine ⟨f, fun k hk => (h1 k hk).1, fun x hx => ?_⟩
  simp only [List.mem_cons, List.not_mem_nil, or_false] at hx
  rcases hx with rfl | rfl
  · exact h2
  · intro y hy
    obtain ⟨k, hk, rfl⟩ := List.mem_map.1 hy
    exact (h1 k (List.mem_range.1 hk)).2
end
end Go.Proofs.YtdnkkbmpefhbjaaGreatDoor
