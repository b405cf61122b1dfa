/- slices.Collect of events. -/
import Derived.Test.YtpggmebgndkpjaaDoorModel
namespace Go.Proofs.YtpggmebgndkpjaaDoor
set_option linter.all false
open Go Go.RowKit
theorem take_snoc {α : Type} {l : List α} {k : Nat} {x : α} (h : l[k]? = some x) : l.take k ++ [x] = l.take (k + 1) := by
  obtain ⟨h1, h2⟩ := List.getElem?_eq_some_iff.1 h
  rw [List.take_succ_eq_append_getElem h1, h2]
theorem appendSeq_m {F0 : Nat → Prop} {W : World} {M R : List Res} (x : Nat × List Value) (es : List Ev) (rx : Res) (w0 : World) (hs : Sat F0 W M R w0) (hx : DenE x es rx) (hx2 : HasR rx R) (hl : es.length ≤ 1000000000000) : Calls Tryd.prog 98 [.slice none 0 0, .func (.func x.1) #[] (List.toArray x.2)].toArray w0 fun e w => ∃ a c, e = .returned (.slice a es.length c) ∧ Sat F0 W (row 36 3 (.slice a es.length c) es.length (el ec es) :: M) R w := by
  refine c_enterM (args := [.slice none 0 0, .func (.func x.1) #[] (List.toArray x.2)]) Tryd.func98 rfl rfl rfl fun a hk => ?_
  refine wpIn_seq ?_
  refine wpIn_region_lit ?_
  refine q_box (vs := [.slice none 0 0]) hk hs rfl rfl rfl rfl fun b1 w a hk hs => ?_
  refine q_val hk (w_as rfl) rfl rfl rfl fun a hk => ?_
  refine (c_end (x_t ?_))
  refine wpIn_seq ?_
  refine wpIn_seq ?_
  refine wpIn_region_lit ?_
  refine q_val hk (w_mv rfl) rfl rfl rfl fun a hk => ?_
  refine (c_end (x_t ?_))
  refine wpIn_block ?_
  have hs := hs.row0 36 3
  have hk : Kn [] 13 [(6, .func (.func x.1) #[] (List.toArray x.2)), (4, .slice none 0 0), (2, .pointer (some ⟨b1, 0, none⟩))] a := hk.k rfl (hk.k rfl (hk.k rfl hk.nil))
  have hs := hs.up1
  have hs := Sat.pack (l := [blk b1 [.slice none 0 0] 26, row 36 3 (.slice none 0 0) 0 (el ec (es.take 0))]) hs
  have hs := hs.none.up1
  refine c_range0 hk hs rfl hx hx2 (fun _ => rfl) rfl (fun k r => ∃ (al : Option Addr) (cl : Nat), r = bun [blk b1 [.slice al k cl] 26, row 36 3 (.slice al k cl) k (el ec (es.take k))]) (fun c k r => False) ⟨_, _, rfl⟩ rfl ?_ ?_ ?_
  · rintro l2 k2 x2 hx2 LR2 LB2 FR2 hL2 r a w ⟨al, cl, rfl⟩ hk hs
    have hlt : k2 < es.length := (List.getElem?_eq_some_iff.1 hx2).1
    have hk : Kn [] 13 [(7, .agg #[.int .i64 x2.1, .int .i64 x2.2.1, .int .i64 x2.2.2]), (6, .func (.func x.1) #[] (List.toArray x.2)), (4, .slice none 0 0), (2, .pointer (some ⟨b1, 0, none⟩))] a := hk
    have hs : Sat F0 W [blk b1 [.slice al k2 cl] 26, row 36 3 (.slice al k2 cl) k2 (el ec (es.take k2)), LR2, FR2] R w := hs.unpack
    refine wpIn_region_lit ?_
    refine q_alc (vs := [.int .i64 0, .int .i64 0, .int .i64 0]) hk hs zr36 rfl rfl rfl fun b3 w a hk hs => ?_
    refine q_sto (o := 0) (cs := [.int .i64 x2.1, .int .i64 x2.2.1, .int .i64 x2.2.2]) (vs' := [.int .i64 x2.1, .int .i64 x2.2.1, .int .i64 x2.2.2]) hk hs rfl rfl rfl ty36 rfl rfl rfl rfl rfl rfl fun w hs => ?_
    refine (c_end (x_t ?_))
    have hs := hs.up3
    refine hL2.begin_ hs fun w hs => ?_
    refine wpIn_block ?_
    refine wpIn_region_lit ?_
    refine q_val hk (w_ld1 rfl ty26 (.blk (n := 1) (hs.mi 2 rfl) rfl)) rfl rfl rfl fun a hk => ?_
    refine q_val hk (w_ldA rfl ty36 (.blk (n := 3) (hs.mi 1 rfl) rfl) rfl) rfl rfl rfl fun a hk => ?_
    refine q_bsl (els := [.tmp 9]) (cs := [.int .i64 x2.1, .int .i64 x2.2.1, .int .i64 x2.2.2]) hk hs rfl Tryd.underlying26 ty36 zr36 rfl rfl rfl rfl rfl rfl rfl fun b4 w a hk hs => ?_
    have hs := hs.up4
    refine q_app (news := [.int .i64 x2.1, .int .i64 x2.2.1, .int .i64 x2.2.2]) (m := 1) hk hs rfl rfl Tryd.underlying26 ty36 zr36 rfl rfl (.blk (n := 3) (hs.mi 1 rfl) rfl) rfl rfl (by omega) (by omega) rfl rfl fun a5 c6 w a hk hs => ?_
    have hs := hs.up1
    have hs := hs.drop
    have hs := hs.up3
    refine q_sto (o := 0) (cs := [.slice a5 (k2 + 1) c6]) (vs' := [.slice a5 (k2 + 1) c6]) hk hs rfl rfl rfl ty26 rfl rfl rfl rfl rfl rfl fun w hs => ?_
    refine (c_end (x_b ?_))
    have hs := hs.up1
    have hs := hs.rw0 (congrArg _ el_snoc)
    rw [take_snoc hx2] at hs
    have hs := hs.up3
    have hs := hs.drop
    have hs := hs.up3
    have hs := hs.up3
    have hs := hs.up2
    have hs := hs.up3
    exact ⟨_, ⟨_, _, rfl⟩, Sat.pack (l := [_, _]) hs⟩
  · intro D2 r r2 a w hJ hK hk hs
    obtain ⟨al, cl, rfl⟩ := hJ
    obtain rfl := hK
    have hs := Sat.unpack (l := [blk b1 [.slice al es.length cl] 26, row 36 3 (.slice al es.length cl) es.length (el ec (es.take es.length))]) hs.up2.drop.up1
    have hs : Sat F0 W ((blk b1 [.slice al es.length cl] 26) :: (row 36 3 (.slice al es.length cl) es.length (el ec (es.take es.length))) :: (dres D2) :: M) R w := hs
    refine (x_b (x_t ?_))
    refine wpIn_seq ?_
    refine wpIn_region_lit ?_
    refine q_val hk (w_ld1 rfl ty26 (.blk (n := 1) (hs.mi 0 rfl) rfl)) rfl rfl rfl fun a hk => ?_
    refine q_val hk (w_as rfl) rfl rfl rfl fun a hk => ?_
    refine (c_end (x_t ?_))
    refine (wpIn_ret ?_)
    have hs := hs.up1
    have hs := hs.up1
    have hs := hs.up2
    refine c_retM (M := ((blk b1 [.slice al es.length cl] 26) :: (row 36 3 (.slice al es.length cl) es.length (el ec (es.take es.length))) :: M)) hk hs fun w hs => ⟨_, res_ok (rs := [.tmp 4]) (vs := [.slice al es.length cl]) hk rfl ⟨rfl, trivial⟩, ?_⟩
    rw [List.take_length] at hs
    have hs := hs.drop
    exact ⟨_, _, rfl, hs⟩
  · rintro _ _ _ _ _ _ _ _ h; exact h.elim
theorem collect_m {F0 : Nat → Prop} {W : World} {M R : List Res} (x : Nat × List Value) (es : List Ev) (rx : Res) (w0 : World) (hs : Sat F0 W M R w0) (hx : DenE x es rx) (hx2 : HasR rx R) (hl : es.length ≤ 1000000000000) : Calls Tryd.prog 69 [.func (.func x.1) #[] (List.toArray x.2)].toArray w0 fun e w => ∃ a c, e = .returned (.slice a es.length c) ∧ Sat F0 W (row 36 3 (.slice a es.length c) es.length (el ec es) :: M) R w := by
  refine c_enter (args := [.func (.func x.1) #[] (List.toArray x.2)]) Tryd.func69 rfl rfl rfl fun a hk => ?_
  refine wpIn_seq ?_
  refine wpIn_region_lit ?_
  refine q_val hk (w_as rfl) rfl rfl rfl fun a hk => ?_
  refine (c_end (x_t ?_))
  refine wpIn_seq ?_
  refine wpIn_region_lit ?_
  refine q_val hk (w_mv rfl) rfl rfl rfl fun a hk => ?_
  refine q_call (caps := []) hk rfl rfl Tryd.func98 fo98 rfl rfl (appendSeq_m x es rx _ hs hx hx2 hl) ?_
  rintro _ w ⟨a1, c2, rfl, hs⟩
  refine ⟨_, rfl, fun a hk => ?_⟩
  refine q_val hk (w_as rfl) rfl rfl rfl fun a hk => ?_
  refine (c_end (x_t ?_))
  refine (wpIn_ret ?_)
  refine c_ret1 hk rfl rfl ?_
  exact ⟨_, _, rfl, hs⟩
end Go.Proofs.YtpggmebgndkpjaaDoor
