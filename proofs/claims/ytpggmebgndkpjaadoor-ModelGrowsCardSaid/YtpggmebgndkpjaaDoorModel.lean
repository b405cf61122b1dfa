/- The model's sequences of events: what each function of package model yields. -/
import Derived.Test.YtpggmebgndkpjaaDoorIter
import Derived.Test.YtpggmebgndkpjaaDoorTape
import Derived.Test.YtpggmebgndkpjaaDoorTy
namespace Go.Proofs.YtpggmebgndkpjaaDoor
set_option linter.all false
open Go Go.RowKit

/-- A function with its captured values. -/
def fval (x : Nat × List Value) : Value := .func (.func x.1) #[] x.2.toArray
def fcv (x : Nat × List Value) : List Value := [fval x]
theorem fcv_len (x : Nat × List Value) : (fcv x).length = 1 := rfl
theorem fcv_ones (x : Nat × List Value) : ones (fcv x) = true := rfl
abbrev DenE (v : Nat × List Value) (es : List Ev) (r : Res) : Prop := Den Tryd.prog (fval v) evE es r
/-- Values that yield lists. -/
structure DenL (l : List (Nat × List Value)) (ess : List (List Ev)) (r : Res) : Prop where
  len : l.length = ess.length
  at_ : ∀ k, k < l.length → DenE (l.getD k (0, [])) (ess.getD k []) r
theorem DenL.nil (r : Res) : DenL [] [] r := ⟨rfl, fun k h => by cases h⟩
theorem getD_app_lt {α : Type} {l m : List α} {k : Nat} {d : α} (h : k < l.length) : (l ++ m).getD k d = l.getD k d := by simp [List.getD, List.getElem?_append_left h]
theorem getD_app_eq {α : Type} {l : List α} {x d : α} : (l ++ [x]).getD l.length d = x := by simp [List.getD]
theorem DenL.snoc {l : List (Nat × List Value)} {ess : List (List Ev)} {r r' : Res} {x : Nat × List Value} {es : List Ev} (h : DenL l ess r) (hx : DenE x es r') : DenL (l ++ [x]) (ess ++ [es]) (rall [r', r]) := by
  refine ⟨by simp [h.len], fun k hk => ?_⟩
  rw [List.length_append, List.length_singleton] at hk
  by_cases hlt : k < l.length
  · rw [getD_app_lt hlt, getD_app_lt (by rw [← h.len]; exact hlt)]
    exact DenK.mono (h.at_ k hlt) ((HasR.of (by simp)).unpart)
  · obtain rfl : k = l.length := by omega
    rw [getD_app_eq, h.len, getD_app_eq]
    exact DenK.mono hx ((HasR.of (by simp)).unpart)
/-- The number of events ahead of list k. -/
def off (ess : List (List Ev)) (k : Nat) : Nat := (ess.take k).flatten.length
theorem off_zero (ess : List (List Ev)) : off ess 0 = 0 := by simp [off]
theorem off_succ {ess : List (List Ev)} {k : Nat} (h : k < ess.length) : off ess (k + 1) = off ess k + (ess.getD k []).length := by
  unfold off
  have e : ess.getD k [] = ess[k] := by simp [List.getD, h]
  rw [List.take_succ_eq_append_getElem h, List.flatten_append, List.length_append, e]
  congr 1
  simp
theorem off_all (ess : List (List Ev)) : off ess ess.length = ess.flatten.length := by simp [off]
theorem off_get {ess : List (List Ev)} {k i : Nat} {x : Ev} (h : k < ess.length) (hx : (ess.getD k [])[i]? = some x) : ess.flatten[off ess k + i]? = some x := by
  have e : ess = ess.take k ++ (ess.getD k [] :: ess.drop (k + 1)) := by
    simp [List.getD, h]
  have e2 : ess.flatten = (ess.take k).flatten ++ ((ess.getD k []) ++ (ess.drop (k + 1)).flatten) := by
    conv => lhs; rw [e]
    simp
  rw [e2]
  unfold off
  rw [List.getElem?_append_right (by omega), Nat.add_sub_cancel_left, List.getElem?_append_left (List.getElem?_eq_some_iff.1 hx).1]
  exact hx
theorem off_lt {ess : List (List Ev)} {k i : Nat} (h : k < ess.length) (hx : i < (ess.getD k []).length) : off ess k + i < ess.flatten.length := by
  have := off_get h (List.getElem?_eq_getElem hx)
  exact (List.getElem?_eq_some_iff.1 this).1
theorem one_it (kd la lb : Int) (b1 b2 b3 : Nat)  : IterQ Tryd.prog 100 [.pointer (some ⟨b1, 0, none⟩), .pointer (some ⟨b2, 0, none⟩), .pointer (some ⟨b3, 0, none⟩)] evE ([(kd, la, lb)]) (fun _ r => r = nores) (rall [blk b3 [.int .i64 lb] 3, blk b2 [.int .i64 la] 3, blk b1 [.int .i64 kd] 3]) := by
  intro l J Jx F0 W R hR hY FR j k w0 hj hK hs
  obtain rfl := hK
  refine c_enter (args := [.func (.yield l) #[] #[], .pointer (some ⟨b1, 0, none⟩), .pointer (some ⟨b2, 0, none⟩), .pointer (some ⟨b3, 0, none⟩)]) Tryd.func100 rfl rfl rfl fun a hk => ?_
  refine wpIn_region_lit ?_
  refine q_val hk (w_mv rfl) rfl rfl rfl fun a hk => ?_
  refine q_val hk (w_ld1 rfl ty3 (.blk (n := 1) ((hR.pi 2 rfl).at_ hs) rfl)) rfl rfl rfl fun a hk => ?_
  refine q_val hk (w_ld1 rfl ty3 (.blk (n := 1) ((hR.pi 1 rfl).at_ hs) rfl)) rfl rfl rfl fun a hk => ?_
  refine q_val hk (w_ld1 rfl ty3 (.blk (n := 1) ((hR.pi 0 rfl).at_ hs) rfl)) rfl rfl rfl fun a hk => ?_
  refine q_val hk (w_bld rfl fl36 zr36 rfl rfl) rfl rfl rfl fun a hk => ?_
  refine q_yield hk hs 0 (kd, la, lb) rfl rfl hY rfl rfl hj rfl rfl fun y1 j w a hj hk hs => ?_
  refine (c_end ?_)
  refine c_end0 hk rfl ?_
  rcases y1 with _ | _
  · exact ⟨⟨_, rfl⟩, _, _, hs, .inr ⟨0, (by simp), hj, rfl⟩⟩
  · exact ⟨⟨_, rfl⟩, _, _, hs, .inl ⟨hj, rfl⟩⟩
theorem join_it (b n lc : Nat) (la : Option Addr) (fs : List (Nat × List Value)) (ess : List (List Ev)) (rr : Res) (hD : DenL fs ess rr) (hn : n = fs.length) (hn9 : n ≤ 1000000000) : IterQ Tryd.prog 99 [.pointer (some ⟨b, 0, none⟩)] evE ess.flatten (fun _ r => r = nores) (rall [blk b [.slice la n lc] 132, lst 1 (.slice la n lc) n (el fcv fs), rr]) := by
  intro l J Jx F0 W R hR hY FR j k w0 hj hK hs
  obtain rfl := hK
  refine c_enterM (args := [.func (.yield l) #[] #[], .pointer (some ⟨b, 0, none⟩)]) Tryd.func99 rfl rfl rfl fun a hk => ?_
  refine wpIn_seq ?_
  refine wpIn_region_lit ?_
  refine q_box (vs := [.func (.yield l) #[] #[]]) hk hs rfl rfl rfl rfl fun b1 w a hk hs => ?_
  refine (c_end (x_t ?_))
  refine wpIn_seq ?_
  refine wpIn_region_lit ?_
  refine q_val hk (w_ld1 rfl ty132 (.blk (n := 1) ((hR.pi 0 rfl).at_ hs) rfl)) rfl rfl rfl fun a hk => ?_
  refine q_val hk (w_len rfl Tryd.underlying132) rfl rfl rfl fun a hk => ?_
  refine q_val hk (w_mv rfl) rfl rfl rfl fun a hk => ?_
  refine (c_end (x_t ?_))
  refine wpIn_block ?_
  have hs := Sat.pack (l := []) hs
  refine c_loop (α := Nat) (fun i a w => ∃ (Ds : List Nat) (j : Res), i ≤ n ∧ J (off ess i) j ∧ Kn Ds 19 [(8, .int .i64 (i : Int)), (7, .int .i64 ((n : Nat) : Int)), (6, .slice la n lc), (2, .pointer (some ⟨b1, 0, none⟩))] a ∧ Sat F0 W [bun (Ds.map dres), blk b1 [.func (.yield l) #[] #[]] 133, j, nores, FR] R w) (fun i => n - i) 0 ?_ ?_
  · exact ⟨_, _, (by omega), (by rw [off_zero]; exact hj), hk.k rfl (hk.k rfl (hk.k rfl (hk.k rfl hk.nil))), hs⟩
  rintro i a w ⟨Ds, j, hf0, hf1, hk, hs⟩
  have hj := hf1
  refine wpIn_seq ?_
  refine wpIn_region_lit ?_
  rcases Classical.em ((i : Int) < ((n : Nat) : Int)) with hc2 | hc2
  · skip
    have hlt : i < fs.length := by omega
    have hel : i < ess.length := by rw [← hD.len]; omega
    refine q_val hk (w_lt rfl rfl (decide_eq_true hc2)) rfl rfl rfl fun a hk => ?_
    refine (c_end (x_t ?_))
    refine wpIn_seq ?_
    refine c_T hk rfl ?_
    refine (wpIn_skip (x_t ?_))
    refine wpIn_seq ?_
    refine wpIn_block ?_
    refine wpIn_seq ?_
    refine wpIn_region_lit ?_
    refine q_val hk (w_iaL (k := i) rfl rfl Tryd.underlying132 ty102 ((hR.pi 1 rfl).at_ hs) (by omega) (by omega)) rfl rfl rfl fun a hk => ?_
    refine q_val hk (w_ld1 rfl ty102 (lstq (k := i) ((hR.pi 1 rfl).at_ hs) (by omega) (el_chunk fcv_len (by omega) (0, [])))) rfl rfl rfl fun a hk => ?_
    refine q_val hk (w_as rfl) rfl rfl rfl fun a hk => ?_
    refine (c_end (x_t ?_))
    refine wpIn_seq ?_
    refine wpIn_region_lit ?_
    refine q_val hk (w_mv rfl) rfl rfl rfl fun a hk => ?_
    refine (c_end (x_t ?_))
    refine wpIn_block ?_
    have hk : Kn Ds 19 [(12, fval (fs.getD i (0, []))), (4, fval (fs.getD i (0, []))), (11, fval (fs.getD i (0, []))), (9, .bool true), (8, .int .i64 (i : Int)), (7, .int .i64 ((n : Nat) : Int)), (6, .slice la n lc), (2, .pointer (some ⟨b1, 0, none⟩))] a := hk.k rfl (hk.k rfl (hk.k rfl (hk.k rfl (hk.k rfl (hk.k rfl (hk.k rfl (hk.k rfl hk.nil)))))))
    have hs := hs.up1
    have hs := hs.up2
    have hs := Sat.pack (l := [j, blk b1 [.func (.yield l) #[] #[]] 133]) hs
    have hs := hs.none.up1
    refine c_range0 hk hs rfl (hD.at_ i hlt) (hR.pi 2 rfl) (fun _ => rfl) rfl (fun k r => ∃ (j : Res), J (off ess i + k) j ∧ r = bun [j, blk b1 [.func (.yield l) #[] #[]] 133]) (fun c k r => (c = .ret ∧ ∃ (j : Res), Jx (off ess i + k) j ∧ r = bun [j, blk b1 [.func (.yield l) #[] #[]] 133])) ⟨_, hj, rfl⟩ rfl ?_ ?_ ?_
    · rintro l3 k3 x3 hx3 LR3 LB3 FR3 hL3 r a w ⟨j, hj, rfl⟩ hk hs
      have hk : Kn [] 19 [(13, .agg #[.int .i64 x3.1, .int .i64 x3.2.1, .int .i64 x3.2.2]), (12, fval (fs.getD i (0, []))), (4, fval (fs.getD i (0, []))), (11, fval (fs.getD i (0, []))), (9, .bool true), (8, .int .i64 (i : Int)), (7, .int .i64 ((n : Nat) : Int)), (6, .slice la n lc), (2, .pointer (some ⟨b1, 0, none⟩))] a := hk
      have hs : Sat F0 W [j, blk b1 [.func (.yield l) #[] #[]] 133, LR3, FR3] R w := hs.unpack
      refine wpIn_region_lit ?_
      refine q_alc (vs := [.int .i64 0, .int .i64 0, .int .i64 0]) hk hs zr36 rfl rfl rfl fun b4 w a hk hs => ?_
      refine q_sto (o := 0) (cs := [.int .i64 x3.1, .int .i64 x3.2.1, .int .i64 x3.2.2]) (vs' := [.int .i64 x3.1, .int .i64 x3.2.1, .int .i64 x3.2.2]) hk hs rfl rfl rfl ty36 rfl rfl rfl rfl rfl rfl fun w hs => ?_
      refine (c_end (x_t ?_))
      have hs := hs.up3
      refine hL3.begin_ hs fun w hs => ?_
      refine wpIn_block ?_
      refine wpIn_seq ?_
      refine wpIn_region_lit ?_
      refine q_val hk (w_ld1 rfl ty133 (.blk (n := 1) (hs.mi 3 rfl) rfl)) rfl rfl rfl fun a hk => ?_
      refine q_val hk (w_ldA rfl ty36 (.blk (n := 3) (hs.mi 1 rfl) rfl) rfl) rfl rfl rfl fun a hk => ?_
      have hs := hs.up2
      refine q_yield hk hs (off ess i + k3) x3 rfl rfl hY (off_get hel hx3) rfl hj rfl rfl fun y5 j w a hj hk hs => ?_
      refine q_val hk (w_not rfl) rfl rfl rfl fun a hk => ?_
      refine (c_end (x_t ?_))
      rcases y5 with _ | _
      · skip
        have hj : Jx ((off ess i + k3) + 1) j := hj
        refine c_T hk rfl ?_
        refine (wpIn_ret (x_br ?_))
        have hs := hs.up2
        have hs := hs.drop
        have hs := hs.up3
        have hs := hs.up2
        have hs := hs.up3
        have hs := hs.up3
        exact ⟨_, ⟨rfl, ⟨_, hj, rfl⟩⟩, Sat.pack (l := [_, _]) hs⟩
      · skip
        have hj : J ((off ess i + k3) + 1) j := hj
        refine c_F hk rfl ?_
        refine (wpIn_skip (x_b ?_))
        have hs := hs.up2
        have hs := hs.drop
        have hs := hs.up3
        have hs := hs.up2
        have hs := hs.up3
        have hs := hs.up3
        exact ⟨_, ⟨_, hj, rfl⟩, Sat.pack (l := [_, _]) hs⟩
    · intro D3 r r3 a w hJ hK hk hs
      obtain ⟨j, hj, rfl⟩ := hJ
      obtain rfl := hK
      have hs := Sat.unpack (l := [j, blk b1 [.func (.yield l) #[] #[]] 133]) hs.up2.drop.up1
      have hs : Sat F0 W [j, blk b1 [.func (.yield l) #[] #[]] 133, dres D3, bun (Ds.map dres), nores, FR] R w := hs
      refine (x_b (x_b (x_t ?_)))
      refine wpIn_region_lit ?_
      refine q_val hk (w_add rfl rfl (wr64 (by omega) (by omega))) rfl rfl rfl fun a hk => ?_
      refine q_val hk (w_mv rfl) rfl rfl rfl fun a hk => ?_
      refine (c_end (x_t ?_))
      have hs := hs.up3
      have hs := hs.up3
      have hs := hs.packD
      have hs := hs.up4
      have hs := hs.up4
      have hs := hs.up3
      have hs := hs.up4
      have hs := hs.up4
      exact ⟨i + 1, ⟨_, _, (by omega), (by rw [off_succ hel]; exact hj), hk.k rfl (hk.k rfl (hk.k rfl (hk.k rfl hk.nil))), hs⟩, by omega⟩
    · rintro c D3 i3 r r3 a w hi3 ⟨rfl, j, hj, rfl⟩ hK hk hs
      obtain rfl := hK
      have hs := Sat.unpack (l := [j, blk b1 [.func (.yield l) #[] #[]] 133]) hs.up2.drop.up1
      have hs : Sat F0 W [j, blk b1 [.func (.yield l) #[] #[]] 133, dres D3, bun (Ds.map dres), nores, FR] R w := hs
      refine (wpIn_ret (x_br (x_br (x_tr (x_tr (x_br ?_))))))
      have hs := hs.up3
      have hs := hs.up3
      have hs := hs.packD
      have hs := hs.unpack
      refine c_retM (M := [j, blk b1 [.func (.yield l) #[] #[]] 133, nores, FR]) hk hs fun w hs => ⟨_, res_ok (rs := []) (vs := []) hk rfl trivial, ?_⟩
      have hs := hs.up1
      have hs := hs.drop
      exact ⟨⟨_, rfl⟩, _, _, hs, .inr ⟨(off ess i + i3), (off_lt hel hi3), hj, rfl⟩⟩
  · skip
    refine q_val hk (w_lt rfl rfl (decide_eq_false hc2)) rfl rfl rfl fun a hk => ?_
    refine (c_end (x_t ?_))
    refine wpIn_seq ?_
    refine c_F hk rfl ?_
    refine (wpIn_exit (x_te (x_te (x_be ?_))))
    have hs := hs.unpack
    refine c_endM (M := [blk b1 [.func (.yield l) #[] #[]] 133, j, nores, FR]) hk hs fun w hs => ⟨_, res_ok (rs := []) (vs := []) hk rfl trivial, ?_⟩
    have hs := hs.drop
    exact ⟨⟨_, rfl⟩, _, _, hs, .inl ⟨(by have e : i = ess.length := (by rw [← hD.len]; omega); rw [e, off_all] at hj; exact hj), rfl⟩⟩
theorem DenL.cons2 {l : List (Nat × List Value)} {ess : List (List Ev)} {r : Res} {R : List Res} (h : DenL l ess r) (hr : HasR r R) : HasR r R := hr
/-- A function of a number that gives sequences. -/
def FunE (x : Nat × List Value) (D : Int → Prop) (F : Int → List Ev) (r : Res) : Prop :=
  ∃ fn, Tryd.prog.funcs[x.1]? = some fn ∧ (fn.name != "runtime.NumGoroutine" && fn.body.isSome) = true ∧ ∀ (F0 : Nat → Prop) (W : World) (M R : List Res) (w0 : World) (i : Int), D i → HasR r R → Sat F0 W M R w0 →
    Calls Tryd.prog x.1 (.int .i64 i :: x.2).toArray w0 fun e w => ∃ y q, e = .returned (fval y) ∧ DenE y (F i) q ∧ Sat F0 W M (q :: R) w
/-- The events of a function for the numbers from a bound to below another one. -/
def upE (fr to : Int) (F : Int → List Ev) : List Ev := ((List.range (to - fr).toNat).map fun k : Nat => F (fr + (k : Int))).flatten
theorem one_m {F0 : Nat → Prop} {W : World} {M R : List Res} (kd la lb : Int) (w0 : World) (hs : Sat F0 W M R w0)  : Calls Tryd.prog 73 [.int .i64 kd, .int .i64 la, .int .i64 lb].toArray w0 fun e w => ∃ x r, e = .returned (fval x) ∧ DenE x ([(kd, la, lb)]) r ∧ Sat F0 W M (r :: R) w := by
  refine c_enter (args := [.int .i64 kd, .int .i64 la, .int .i64 lb]) Tryd.func73 rfl rfl rfl fun a hk => ?_
  refine wpIn_seq ?_
  refine wpIn_region_lit ?_
  refine q_box (vs := [.int .i64 kd]) hk hs rfl rfl rfl rfl fun b1 w a hk hs => ?_
  refine q_box (vs := [.int .i64 la]) hk hs rfl rfl rfl rfl fun b2 w a hk hs => ?_
  refine q_box (vs := [.int .i64 lb]) hk hs rfl rfl rfl rfl fun b3 w a hk hs => ?_
  refine q_val hk (w_as rfl) rfl rfl rfl fun a hk => ?_
  refine (c_end (x_t ?_))
  refine wpIn_seq ?_
  refine wpIn_region_lit ?_
  refine q_val hk (w_mkf (frees := [.tmp 3, .tmp 4, .tmp 5]) rfl) rfl rfl rfl fun a hk => ?_
  refine q_val hk (w_as rfl) rfl rfl rfl fun a hk => ?_
  refine (c_end (x_t ?_))
  refine (wpIn_ret ?_)
  refine c_ret1 hk rfl rfl ?_
  exact ⟨(100, [.pointer (some ⟨b1, 0, none⟩), .pointer (some ⟨b2, 0, none⟩), .pointer (some ⟨b3, 0, none⟩)]), _, rfl, ⟨_, _, _, rfl, Tryd.func100, fo100, one_it _ _ _ _ _ _⟩, Sat.frzL (l := [blk b3 [.int .i64 lb] 3, blk b2 [.int .i64 la] 3, blk b1 [.int .i64 kd] 3]) hs⟩
theorem join_m {F0 : Nat → Prop} {W : World} {M R : List Res} (n lc : Nat) (la : Option Addr) (fs : List (Nat × List Value)) (ess : List (List Ev)) (rr : Res) (w0 : World) (hs : Sat F0 W M R w0) (hD : DenL fs ess rr) (hn : n = fs.length) (hn9 : n ≤ 1000000000) (hL : HasR (lst 1 (.slice la n lc) n (el fcv fs)) R) (hr : HasR rr R) : Calls Tryd.prog 72 [.slice la n lc].toArray w0 fun e w => ∃ x r, e = .returned (fval x) ∧ DenE x (ess.flatten) r ∧ Sat F0 W M (r :: R) w := by
  refine c_enter (args := [.slice la n lc]) Tryd.func72 rfl rfl rfl fun a hk => ?_
  refine wpIn_seq ?_
  refine wpIn_region_lit ?_
  refine q_box (vs := [.slice la n lc]) hk hs rfl rfl rfl rfl fun b1 w a hk hs => ?_
  refine q_val hk (w_as rfl) rfl rfl rfl fun a hk => ?_
  refine (c_end (x_t ?_))
  refine wpIn_seq ?_
  refine wpIn_region_lit ?_
  refine q_val hk (w_mkf (frees := [.tmp 1]) rfl) rfl rfl rfl fun a hk => ?_
  refine q_val hk (w_as rfl) rfl rfl rfl fun a hk => ?_
  refine (c_end (x_t ?_))
  refine (wpIn_ret ?_)
  refine c_ret1 hk rfl rfl ?_
  exact ⟨(99, [.pointer (some ⟨b1, 0, none⟩)]), _, rfl, ⟨_, _, _, rfl, Tryd.func99, fo99, join_it _ n lc la fs ess rr hD hn hn9⟩, hs.mkR (l := [lst 1 (.slice la n lc) n (el fcv fs), rr]) (fun x hx => by simp only [List.mem_cons, List.not_mem_nil, or_false] at hx; rcases hx with rfl | rfl <;> first | exact hL | exact hr)⟩
theorem up_m {F0 : Nat → Prop} {W : World} {M R : List Res} (fr to : Int) (f : Nat × List Value) (D : Int → Prop) (F : Int → List Ev) (rf : Res) (w0 : World) (hs : Sat F0 W M R w0) (hF : FunE f D F rf) (hDm : ∀ i, fr ≤ i → i < to → D i) (hr : HasR rf R) (h1 : -1000000 ≤ fr) (h2 : to ≤ 1000000) (h3 : fr ≤ 1000000) : Calls Tryd.prog 70 [.int .i64 fr, .int .i64 to, .func (.func f.1) #[] (List.toArray f.2)].toArray w0 fun e w => ∃ x r, e = .returned (fval x) ∧ DenE x (upE fr to F) r ∧ Sat F0 W M (r :: R) w := by
  obtain ⟨fn, hfn1, hfn2, hfn3⟩ := hF
  refine c_enter (args := [.int .i64 fr, .int .i64 to, .func (.func f.1) #[] (List.toArray f.2)]) Tryd.func70 rfl rfl rfl fun a hk => ?_
  refine wpIn_seq ?_
  refine wpIn_region_lit ?_
  refine q_val hk (w_as rfl) rfl rfl rfl fun a hk => ?_
  refine (c_end (x_t ?_))
  refine wpIn_seq ?_
  refine wpIn_region_lit ?_
  refine q_val hk (w_as rfl) rfl rfl rfl fun a hk => ?_
  refine (c_end (x_t ?_))
  refine wpIn_seq ?_
  refine wpIn_seq ?_
  refine wpIn_region_lit ?_
  refine q_val hk (w_mv rfl) rfl rfl rfl fun a hk => ?_
  refine q_val hk (w_as rfl) rfl rfl rfl fun a hk => ?_
  refine (c_end (x_t ?_))
  refine wpIn_block ?_
  have hs := hs.row0 102 1
  have hs := hs.hasR HasR.nil
  refine c_loop (α := Nat) (fun k a w => ∃ (al : Option Addr) (cl : Nat) (fs : List (Nat × List Value)) (r : Res) (x : Int), (k ≤ (to - fr).toNat ∧ x = fr + (k : Int)) ∧ DenL fs ((List.range k).map fun i : Nat => F (fr + (i : Int))) r ∧ Kn [] 23 [(8, .int .i64 x), (7, .slice al k cl), (6, .nilFunc), (1, .int .i64 to), (2, .func (.func f.1) #[] (List.toArray f.2))] a ∧ Sat F0 W ((row 102 1 (.slice al k cl) k (el fcv fs)) :: M) (r :: R) w) (fun k => (to - fr).toNat - k) 0 ?_ ?_
  · exact ⟨_, _, _, _, _, ⟨by omega, by omega⟩, (DenL.nil _), hk.k rfl (hk.k rfl (hk.k rfl (hk.k rfl (hk.k rfl hk.nil)))), hs⟩
  rintro k a w ⟨al, cl, fs, r, x, hf0, hf1, hk, hs⟩
  refine wpIn_seq ?_
  refine wpIn_seq ?_
  refine wpIn_region_lit ?_
  refine q_val hk (w_mv rfl) rfl rfl rfl fun a hk => ?_
  refine q_val hk (w_mv rfl) rfl rfl rfl fun a hk => ?_
  rcases Classical.em (x < to) with hc1 | hc1
  · skip
    refine q_val hk (w_lt rfl rfl (decide_eq_true hc1)) rfl rfl rfl fun a hk => ?_
    refine (c_end (x_t ?_))
    refine c_T hk rfl ?_
    refine (wpIn_skip (x_t ?_))
    refine wpIn_seq ?_
    refine wpIn_block ?_
    refine wpIn_region_lit ?_
    refine q_val hk (w_mv rfl) rfl rfl rfl fun a hk => ?_
    refine q_val hk (w_mv rfl) rfl rfl rfl fun a hk => ?_
    refine q_val hk (w_mv rfl) rfl rfl rfl fun a hk => ?_
    refine q_call (caps := f.2) hk rfl rfl hfn1 hfn2 rfl rfl (hfn3 _ _ _ _ _ (x) (hDm _ (by omega) (by omega)) (hr.cons) hs) ?_
    rintro _ w ⟨f2, r3, rfl, hd4, hs⟩
    refine ⟨_, rfl, fun a hk => ?_⟩
    refine q_bsl (els := [.tmp 18]) (cs := [fval f2]) hk hs rfl Tryd.underlying132 ty102 zr102 rfl rfl rfl rfl rfl rfl rfl fun b5 w a hk hs => ?_
    have hs := hs.up1
    refine q_app (news := [fval f2]) (m := 1) hk hs rfl rfl Tryd.underlying132 ty102 zr102 rfl rfl (.blk (n := 1) (hs.mi 1 rfl) rfl) rfl rfl (by omega) (by omega) rfl rfl fun a6 c7 w a hk hs => ?_
    have hs := hs.up1
    have hs := hs.drop
    refine q_val hk (w_as rfl) rfl rfl rfl fun a hk => ?_
    refine (c_end (x_b (x_t ?_)))
    refine wpIn_region_lit ?_
    refine q_val hk (w_mv rfl) rfl rfl rfl fun a hk => ?_
    refine q_val hk (w_add rfl rfl (wr64 (by omega) (by omega))) rfl rfl rfl fun a hk => ?_
    refine q_val hk (w_as rfl) rfl rfl rfl fun a hk => ?_
    refine (c_end (x_t ?_))
    have hs := hs.rw0 (congrArg _ el_snoc)
    have hs := hs.rl2
    have hD := hf1.snoc hd4
    rw [hf0.2] at hD
    exact ⟨k + 1, ⟨_, _, _, _, _, ⟨by omega, by omega⟩, (by rw [List.range_succ, List.map_append]; exact hD), hk.k rfl (hk.k rfl (hk.k rfl (hk.k rfl (hk.k rfl hk.nil)))), hs⟩, by omega⟩
  · skip
    refine q_val hk (w_lt rfl rfl (decide_eq_false hc1)) rfl rfl rfl fun a hk => ?_
    refine (c_end (x_t ?_))
    refine c_F hk rfl ?_
    refine (wpIn_exit (x_te (x_te (x_be ?_))))
    refine (x_t ?_)
    refine wpIn_seq ?_
    refine wpIn_region_lit ?_
    refine q_val hk (w_mv rfl) rfl rfl rfl fun a hk => ?_
    have hs := hs.frz (r := lst 1 (.slice al k cl) k (el fcv fs)) (row_lst (hs.mi 0 rfl)) (fun _ h => h.2)
    refine q_call (caps := []) hk rfl rfl Tryd.func72 fo72 rfl rfl (join_m k cl al _ _ _ _ hs (hf1) (by simp [hf1.len]) (by omega) (HasR.nth 0 rfl) ((HasR.nth 1 rfl))) ?_
    rintro _ w ⟨f8, r9, rfl, hd10, hs⟩
    refine ⟨_, rfl, fun a hk => ?_⟩
    refine q_val hk (w_as rfl) rfl rfl rfl fun a hk => ?_
    refine (c_end (x_t ?_))
    refine (wpIn_ret ?_)
    refine c_ret1 hk rfl rfl ?_
    exact ⟨_, _, rfl, (by have e : k = (to - fr).toNat := (by omega); unfold upE; rw [← e]; exact hd10), hs.subR fun q hq => memT hq (List.mem_of_getElem? (i := 0) rfl) fun x hx => List.mem_cons_of_mem _ (List.mem_cons_of_mem _ (List.mem_cons_of_mem _ (hx)))⟩
theorem kind_f (kd : Int) (b : Nat)  : FunE (103, [.pointer (some ⟨b, 0, none⟩)]) (fun _ => True) (fun i => [(kd, i, 0)]) (rall [blk b [.int .i64 kd] 3]) := by
  refine ⟨_, Tryd.func103, fo103, fun F0 W M R w0 i hi hR hs => ?_⟩
  refine c_enter (args := [.int .i64 i, .pointer (some ⟨b, 0, none⟩)]) Tryd.func103 rfl rfl rfl fun a hk => ?_
  refine wpIn_seq ?_
  refine wpIn_region_lit ?_
  refine q_val hk (w_as rfl) rfl rfl rfl fun a hk => ?_
  refine (c_end (x_t ?_))
  refine wpIn_seq ?_
  refine wpIn_region_lit ?_
  refine q_val hk (w_ld1 rfl ty3 (.blk (n := 1) ((hR.pi 0 rfl).at_ hs) rfl)) rfl rfl rfl fun a hk => ?_
  refine q_val hk (w_mv rfl) rfl rfl rfl fun a hk => ?_
  refine q_call (caps := []) hk rfl rfl Tryd.func73 fo73 rfl rfl (one_m kd i 0 _ hs) ?_
  rintro _ w ⟨f1, r2, rfl, hd3, hs⟩
  refine ⟨_, rfl, fun a hk => ?_⟩
  refine q_val hk (w_as rfl) rfl rfl rfl fun a hk => ?_
  refine (c_end (x_t ?_))
  refine (wpIn_ret ?_)
  refine c_ret1 hk rfl rfl ?_
  exact ⟨_, _, rfl, hd3, hs.subR fun q hq => memT hq (List.mem_of_getElem? (i := 0) rfl) fun x hx => List.mem_cons_of_mem _ (hx)⟩
theorem kind_m {F0 : Nat → Prop} {W : World} {M R : List Res} (kd : Int) (w0 : World) (hs : Sat F0 W M R w0)  : Calls Tryd.prog 76 [.int .i64 kd].toArray w0 fun e w => ∃ x r, e = .returned (fval x) ∧ FunE x (fun _ => True) (fun i => [(kd, i, 0)]) r ∧ Sat F0 W M (r :: R) w := by
  refine c_enter (args := [.int .i64 kd]) Tryd.func76 rfl rfl rfl fun a hk => ?_
  refine wpIn_seq ?_
  refine wpIn_region_lit ?_
  refine q_box (vs := [.int .i64 kd]) hk hs rfl rfl rfl rfl fun b1 w a hk hs => ?_
  refine q_val hk (w_as rfl) rfl rfl rfl fun a hk => ?_
  refine (c_end (x_t ?_))
  refine wpIn_seq ?_
  refine wpIn_region_lit ?_
  refine q_val hk (w_mkf (frees := [.tmp 1]) rfl) rfl rfl rfl fun a hk => ?_
  refine q_val hk (w_as rfl) rfl rfl rfl fun a hk => ?_
  refine (c_end (x_t ?_))
  refine (wpIn_ret ?_)
  refine c_ret1 hk rfl rfl ?_
  exact ⟨(103, [.pointer (some ⟨b1, 0, none⟩)]), _, rfl, kind_f kd _, Sat.frzL (l := [blk b1 [.int .i64 kd] 3]) hs⟩
theorem down_f (f : Nat × List Value) (F : Int → List Ev) (rf : Res) (n : Int) (bf bn : Nat) (hF : FunE f (fun _ => True) F rf) (hn : n ≤ 1000000) : FunE (102, [.pointer (some ⟨bf, 0, none⟩), .pointer (some ⟨bn, 0, none⟩)]) (fun i => 0 ≤ i ∧ i < n) (fun i => F (n - 1 - i)) (rall [rall [blk bf [.func (.func f.1) #[] (List.toArray f.2)] 108, blk bn [.int .i64 n] 3], rf]) := by
  refine ⟨_, Tryd.func102, fo102, fun F0 W M R w0 i hi hR hs => ?_⟩
  obtain ⟨fn, hfn1, hfn2, hfn3⟩ := hF
  refine c_enter (args := [.int .i64 i, .pointer (some ⟨bf, 0, none⟩), .pointer (some ⟨bn, 0, none⟩)]) Tryd.func102 rfl rfl rfl fun a hk => ?_
  refine wpIn_seq ?_
  refine wpIn_region_lit ?_
  refine q_val hk (w_as rfl) rfl rfl rfl fun a hk => ?_
  refine (c_end (x_t ?_))
  refine wpIn_seq ?_
  refine wpIn_region_lit ?_
  refine q_val hk (w_ld1 rfl ty108 (.blk (n := 1) (((hR.pi 0 rfl).pi 0 rfl).at_ hs) rfl)) rfl rfl rfl fun a hk => ?_
  refine q_val hk (w_ld1 rfl ty3 (.blk (n := 1) (((hR.pi 0 rfl).pi 1 rfl).at_ hs) rfl)) rfl rfl rfl fun a hk => ?_
  refine q_val hk (w_sub rfl rfl (wr64 (by omega) (by omega))) rfl rfl rfl fun a hk => ?_
  refine q_val hk (w_mv rfl) rfl rfl rfl fun a hk => ?_
  refine q_val hk (w_sub rfl rfl (wr64 (by omega) (by omega))) rfl rfl rfl fun a hk => ?_
  refine q_call (caps := f.2) hk rfl rfl hfn1 hfn2 rfl rfl (hfn3 _ _ _ _ _ (((n - 1) - i)) trivial ((hR.pi 1 rfl)) hs) ?_
  rintro _ w ⟨f1, r2, rfl, hd3, hs⟩
  refine ⟨_, rfl, fun a hk => ?_⟩
  refine q_val hk (w_as rfl) rfl rfl rfl fun a hk => ?_
  refine (c_end (x_t ?_))
  refine (wpIn_ret ?_)
  refine c_ret1 hk rfl rfl ?_
  exact ⟨_, _, rfl, hd3, hs.subR fun q hq => memT hq (List.mem_of_getElem? (i := 0) rfl) fun x hx => List.mem_cons_of_mem _ (hx)⟩
/-- .. in descending order. -/
def downE (n : Int) (F : Int → List Ev) : List Ev := upE 0 n fun i => F (n - 1 - i)
theorem down_m {F0 : Nat → Prop} {W : World} {M R : List Res} (n : Int) (f : Nat × List Value) (F : Int → List Ev) (rf : Res) (w0 : World) (hs : Sat F0 W M R w0) (hF : FunE f (fun _ => True) F rf) (hr : HasR rf R) (h2 : n ≤ 1000000) : Calls Tryd.prog 75 [.int .i64 n, .func (.func f.1) #[] (List.toArray f.2)].toArray w0 fun e w => ∃ x r, e = .returned (fval x) ∧ DenE x (downE n F) r ∧ Sat F0 W M (r :: R) w := by
  refine c_enter (args := [.int .i64 n, .func (.func f.1) #[] (List.toArray f.2)]) Tryd.func75 rfl rfl rfl fun a hk => ?_
  refine wpIn_seq ?_
  refine wpIn_region_lit ?_
  refine q_box (vs := [.int .i64 n]) hk hs rfl rfl rfl rfl fun b1 w a hk hs => ?_
  refine q_box (vs := [.func (.func f.1) #[] (List.toArray f.2)]) hk hs rfl rfl rfl rfl fun b2 w a hk hs => ?_
  refine q_val hk (w_as rfl) rfl rfl rfl fun a hk => ?_
  refine (c_end (x_t ?_))
  refine wpIn_seq ?_
  refine wpIn_region_lit ?_
  refine q_val hk (w_ld1 rfl ty3 (.blk (n := 1) (hs.mi 1 rfl) rfl)) rfl rfl rfl fun a hk => ?_
  refine q_val hk (w_mkf (frees := [.tmp 3, .tmp 2]) rfl) rfl rfl rfl fun a hk => ?_
  have hs := hs.up1
  have hs := hs.up1
  have hs := Sat.frzL (l := [blk b2 [.func (.func f.1) #[] (List.toArray f.2)] 108, blk b1 [.int .i64 n] 3]) hs
  refine q_call (caps := []) hk rfl rfl Tryd.func70 fo70 rfl rfl (up_m 0 n (102, [.pointer (some ⟨b2, 0, none⟩), .pointer (some ⟨b1, 0, none⟩)]) (fun i => 0 ≤ i ∧ i < n) (fun i => F (n - 1 - i)) (rall [rall [blk b2 [.func (.func f.1) #[] (List.toArray f.2)] 108, blk b1 [.int .i64 n] 3], rf]) _ hs (down_f f F rf n b2 b1 hF h2) (fun _ h1 h2 => ⟨h1, h2⟩) (HasR.two (HasR.nth 0 rfl) (hr.cons)) (by omega) (by omega) (by omega)) ?_
  rintro _ w ⟨f3, r4, rfl, hd5, hs⟩
  refine ⟨_, rfl, fun a hk => ?_⟩
  refine q_val hk (w_as rfl) rfl rfl rfl fun a hk => ?_
  refine (c_end (x_t ?_))
  refine (wpIn_ret ?_)
  refine c_ret1 hk rfl rfl ?_
  exact ⟨_, _, rfl, hd5, hs.subR fun q hq => memT hq (List.mem_of_getElem? (i := 0) rfl) fun x hx => List.mem_cons_of_mem _ (List.mem_cons_of_mem _ (hx))⟩
def pairE (eq : Bool) (i k : Int) : List Ev := if i = k ∧ eq = false then [] else [(3, i, k)]
def pairsE (n : Int) (eq : Bool) : List Ev := upE 0 n fun i => upE 0 n fun k => pairE eq i k
theorem pairE_no {i k : Int} (h : i = k) : pairE false i k = [] := by unfold pairE; rw [if_pos ⟨h, rfl⟩]
theorem pairE_t {i k : Int} : pairE true i k = [(3, i, k)] := by unfold pairE; rw [if_neg (by simp)]
theorem pairE_ne {eq : Bool} {i k : Int} (h : ¬ i = k) : pairE eq i k = [(3, i, k)] := by unfold pairE; rw [if_neg (fun x => h x.1)]
theorem pairs_f2 (k : Int) (eq : Bool) (bi be : Nat)  : FunE (117, [.pointer (some ⟨bi, 0, none⟩), .pointer (some ⟨be, 0, none⟩)]) (fun _ => True) (fun i => pairE eq k i) (rall [rall [blk bi [.int .i64 k] 3], blk be [.bool eq] 4]) := by
  refine ⟨_, Tryd.func117, fo117, fun F0 W M R w0 i hi hR hs => ?_⟩
  refine c_enter (args := [.int .i64 i, .pointer (some ⟨bi, 0, none⟩), .pointer (some ⟨be, 0, none⟩)]) Tryd.func117 rfl rfl rfl fun a hk => ?_
  refine wpIn_seq ?_
  refine wpIn_region_lit ?_
  refine q_val hk (w_as rfl) rfl rfl rfl fun a hk => ?_
  refine (c_end (x_t ?_))
  refine wpIn_seq ?_
  refine wpIn_seq ?_
  refine wpIn_region_lit ?_
  refine q_val hk (w_ld1 rfl ty3 (.blk (n := 1) (((hR.pi 0 rfl).pi 0 rfl).at_ hs) rfl)) rfl rfl rfl fun a hk => ?_
  refine q_val hk (w_mv rfl) rfl rfl rfl fun a hk => ?_
  rcases Classical.em (k = i) with hc1 | hc1
  · skip
    refine q_val hk (w_eq rfl rfl (decide_eq_true hc1)) rfl rfl rfl fun a hk => ?_
    refine q_val hk (w_mv rfl) rfl rfl rfl fun a hk => ?_
    refine q_val hk (w_ld1 rfl ty4 (.blk (n := 1) ((hR.pi 1 rfl).at_ hs) rfl)) rfl rfl rfl fun a hk => ?_
    refine q_val hk (w_not rfl) rfl rfl rfl fun a hk => ?_
    refine q_val hk (w_pickT rfl rfl) rfl rfl rfl fun a hk => ?_
    refine (c_end (x_t ?_))
    rcases eq with _ | _
    · skip
      refine c_T hk rfl ?_
      refine wpIn_seq ?_
      refine wpIn_region_lit ?_
      refine q_call (caps := []) hk rfl rfl Tryd.func72 fo72 rfl rfl (join_m 0 0 none _ _ _ _ hs (DenL.nil nores) rfl (by omega) HasR.lst0 (HasR.nil)) ?_
      rintro _ w ⟨f2, r3, rfl, hd4, hs⟩
      refine ⟨_, rfl, fun a hk => ?_⟩
      refine q_val hk (w_as rfl) rfl rfl rfl fun a hk => ?_
      refine (c_end (x_t ?_))
      refine (wpIn_ret (x_tr ?_))
      refine c_ret1 hk rfl rfl ?_
      exact ⟨_, _, rfl, (by show DenE _ (pairE _ k i) _; first | (rw [pairE_no hc1]; exact hd4) | (rw [pairE_t]; exact hd4) | (rw [pairE_ne hc1]; exact hd4)), hs.subR fun q hq => memT hq (List.mem_of_getElem? (i := 0) rfl) fun x hx => List.mem_cons_of_mem _ (hx)⟩
    · skip
      refine c_F hk rfl ?_
      refine (wpIn_skip (x_t ?_))
      refine wpIn_seq ?_
      refine wpIn_region_lit ?_
      refine q_val hk (w_ld1 rfl ty3 (.blk (n := 1) (((hR.pi 0 rfl).pi 0 rfl).at_ hs) rfl)) rfl rfl rfl fun a hk => ?_
      refine q_val hk (w_mv rfl) rfl rfl rfl fun a hk => ?_
      refine q_call (caps := []) hk rfl rfl Tryd.func73 fo73 rfl rfl (one_m 3 k i _ hs) ?_
      rintro _ w ⟨f5, r6, rfl, hd7, hs⟩
      refine ⟨_, rfl, fun a hk => ?_⟩
      refine q_val hk (w_as rfl) rfl rfl rfl fun a hk => ?_
      refine (c_end (x_t ?_))
      refine (wpIn_ret ?_)
      refine c_ret1 hk rfl rfl ?_
      exact ⟨_, _, rfl, (by show DenE _ (pairE _ k i) _; first | (rw [pairE_no hc1]; exact hd7) | (rw [pairE_t]; exact hd7) | (rw [pairE_ne hc1]; exact hd7)), hs.subR fun q hq => memT hq (List.mem_of_getElem? (i := 0) rfl) fun x hx => List.mem_cons_of_mem _ (hx)⟩
  · skip
    refine q_val hk (w_eq rfl rfl (decide_eq_false hc1)) rfl rfl rfl fun a hk => ?_
    refine q_val hk (w_mv rfl) rfl rfl rfl fun a hk => ?_
    refine q_skip hk rfl rfl fun a hk => ?_
    refine q_skip hk rfl rfl fun a hk => ?_
    refine q_val hk (w_pickF rfl rfl) rfl rfl rfl fun a hk => ?_
    refine (c_end (x_t ?_))
    refine c_F hk rfl ?_
    refine (wpIn_skip (x_t ?_))
    refine wpIn_seq ?_
    refine wpIn_region_lit ?_
    refine q_val hk (w_ld1 rfl ty3 (.blk (n := 1) (((hR.pi 0 rfl).pi 0 rfl).at_ hs) rfl)) rfl rfl rfl fun a hk => ?_
    refine q_val hk (w_mv rfl) rfl rfl rfl fun a hk => ?_
    refine q_call (caps := []) hk rfl rfl Tryd.func73 fo73 rfl rfl (one_m 3 k i _ hs) ?_
    rintro _ w ⟨f8, r9, rfl, hd10, hs⟩
    refine ⟨_, rfl, fun a hk => ?_⟩
    refine q_val hk (w_as rfl) rfl rfl rfl fun a hk => ?_
    refine (c_end (x_t ?_))
    refine (wpIn_ret ?_)
    refine c_ret1 hk rfl rfl ?_
    exact ⟨_, _, rfl, (by show DenE _ (pairE _ k i) _; first | (rw [pairE_no hc1]; exact hd10) | (rw [pairE_t]; exact hd10) | (rw [pairE_ne hc1]; exact hd10)), hs.subR fun q hq => memT hq (List.mem_of_getElem? (i := 0) rfl) fun x hx => List.mem_cons_of_mem _ (hx)⟩
theorem pairs_f1 (n : Int) (eq : Bool) (bn be : Nat) (hn : n ≤ 1000000) : FunE (116, [.pointer (some ⟨bn, 0, none⟩), .pointer (some ⟨be, 0, none⟩)]) (fun _ => True) (fun i => upE 0 n fun k => pairE eq i k) (rall [blk be [.bool eq] 4, blk bn [.int .i64 n] 3]) := by
  refine ⟨_, Tryd.func116, fo116, fun F0 W M R w0 i hi hR hs => ?_⟩
  refine c_enter (args := [.int .i64 i, .pointer (some ⟨bn, 0, none⟩), .pointer (some ⟨be, 0, none⟩)]) Tryd.func116 rfl rfl rfl fun a hk => ?_
  refine wpIn_seq ?_
  refine wpIn_region_lit ?_
  refine q_box (vs := [.int .i64 i]) hk hs rfl rfl rfl rfl fun b1 w a hk hs => ?_
  refine q_val hk (w_as rfl) rfl rfl rfl fun a hk => ?_
  refine (c_end (x_t ?_))
  refine wpIn_seq ?_
  refine wpIn_region_lit ?_
  refine q_val hk (w_ld1 rfl ty3 (.blk (n := 1) ((hR.pi 1 rfl).at_ hs) rfl)) rfl rfl rfl fun a hk => ?_
  refine q_val hk (w_mkf (frees := [.tmp 3, .tmp 2]) rfl) rfl rfl rfl fun a hk => ?_
  have hs := Sat.frzL (l := [blk b1 [.int .i64 i] 3]) hs
  refine q_call (caps := []) hk rfl rfl Tryd.func70 fo70 rfl rfl (up_m 0 n (117, [.pointer (some ⟨b1, 0, none⟩), .pointer (some ⟨be, 0, none⟩)]) (fun _ => True) (fun k => pairE eq i k) (rall [rall [blk b1 [.int .i64 i] 3], blk be [.bool eq] 4]) _ hs (pairs_f2 i eq b1 be) (fun _ _ _ => trivial) (HasR.two (HasR.nth 0 rfl) (hR.cons.pi 0 rfl)) (by omega) (by omega) (by omega)) ?_
  rintro _ w ⟨f2, r3, rfl, hd4, hs⟩
  refine ⟨_, rfl, fun a hk => ?_⟩
  refine q_val hk (w_as rfl) rfl rfl rfl fun a hk => ?_
  refine (c_end (x_t ?_))
  refine (wpIn_ret ?_)
  refine c_ret1 hk rfl rfl ?_
  exact ⟨_, _, rfl, hd4, hs.subR fun q hq => memT hq (List.mem_of_getElem? (i := 0) rfl) fun x hx => List.mem_cons_of_mem _ (List.mem_cons_of_mem _ (hx))⟩
theorem pairs_m {F0 : Nat → Prop} {W : World} {M R : List Res} (n : Int) (eq : Bool) (w0 : World) (hs : Sat F0 W M R w0) (hn : n ≤ 1000000) : Calls Tryd.prog 104 [.int .i64 n, .bool eq].toArray w0 fun e w => ∃ x r, e = .returned (fval x) ∧ DenE x (pairsE n eq) r ∧ Sat F0 W M (r :: R) w := by
  refine c_enter (args := [.int .i64 n, .bool eq]) Tryd.func104 rfl rfl rfl fun a hk => ?_
  refine wpIn_seq ?_
  refine wpIn_region_lit ?_
  refine q_box (vs := [.int .i64 n]) hk hs rfl rfl rfl rfl fun b1 w a hk hs => ?_
  refine q_box (vs := [.bool eq]) hk hs rfl rfl rfl rfl fun b2 w a hk hs => ?_
  refine q_val hk (w_as rfl) rfl rfl rfl fun a hk => ?_
  refine (c_end (x_t ?_))
  refine wpIn_seq ?_
  refine wpIn_region_lit ?_
  refine q_val hk (w_ld1 rfl ty3 (.blk (n := 1) (hs.mi 1 rfl) rfl)) rfl rfl rfl fun a hk => ?_
  refine q_val hk (w_mkf (frees := [.tmp 2, .tmp 3]) rfl) rfl rfl rfl fun a hk => ?_
  have hs := hs.up1
  have hs := hs.up1
  have hs := Sat.frzL (l := [blk b2 [.bool eq] 4, blk b1 [.int .i64 n] 3]) hs
  refine q_call (caps := []) hk rfl rfl Tryd.func70 fo70 rfl rfl (up_m 0 n (116, [.pointer (some ⟨b1, 0, none⟩), .pointer (some ⟨b2, 0, none⟩)]) (fun _ => True) (fun i => upE 0 n fun k => pairE eq i k) (rall [blk b2 [.bool eq] 4, blk b1 [.int .i64 n] 3]) _ hs (pairs_f1 n eq b1 b2 hn) (fun _ _ _ => trivial) (HasR.nth 0 rfl) (by omega) (by omega) (by omega)) ?_
  rintro _ w ⟨f3, r4, rfl, hd5, hs⟩
  refine ⟨_, rfl, fun a hk => ?_⟩
  refine q_val hk (w_as rfl) rfl rfl rfl fun a hk => ?_
  refine (c_end (x_t ?_))
  refine (wpIn_ret ?_)
  refine c_ret1 hk rfl rfl ?_
  exact ⟨_, _, rfl, hd5, hs.subR fun q hq => memT hq (List.mem_of_getElem? (i := 0) rfl) fun x hx => List.mem_cons_of_mem _ (List.mem_cons_of_mem _ (hx))⟩
def stepE (i : Int) : List Ev := [(6, i, 0)] ++ upE 0 16 fun j => [(1, j, 0)]
def inverseE : List Ev := downE 64 stepE
def coefE (i : Int) : List Ev := [(2, i, 0)]
def weightsE (n : Int) : List Ev := if n = 0 then [] else pairsE n false ++ upE 0 n coefE ++ inverseE ++ downE n coefE
def interpE (n : Int) : List Ev := weightsE n ++ pairsE n true
theorem inverse_f   : FunE (118, []) (fun _ => True) stepE (nores) := by
  refine ⟨_, Tryd.func118, fo118, fun F0 W M R w0 i hi hR hs => ?_⟩
  refine c_enter (args := [.int .i64 i]) Tryd.func118 rfl rfl rfl fun a hk => ?_
  refine wpIn_seq ?_
  refine wpIn_region_lit ?_
  refine q_val hk (w_as rfl) rfl rfl rfl fun a hk => ?_
  refine (c_end (x_t ?_))
  refine wpIn_seq ?_
  refine wpIn_region_lit ?_
  refine q_val hk (w_mv rfl) rfl rfl rfl fun a hk => ?_
  refine q_call (caps := []) hk rfl rfl Tryd.func73 fo73 rfl rfl (one_m 6 i 0 _ hs) ?_
  rintro _ w ⟨f1, r2, rfl, hd3, hs⟩
  refine ⟨_, rfl, fun a hk => ?_⟩
  refine q_call (caps := []) hk rfl rfl Tryd.func76 fo76 rfl rfl (kind_m 1 _ hs) ?_
  rintro _ w ⟨f4, r5, rfl, hd6, hs⟩
  refine ⟨_, rfl, fun a hk => ?_⟩
  refine q_call (caps := []) hk rfl rfl Tryd.func70 fo70 rfl rfl (up_m 0 16 f4 (fun _ => True) (fun i => [(1, i, 0)]) (r5) _ hs hd6 (fun _ _ _ => trivial) (HasR.nth 0 rfl) (by omega) (by omega) (by omega)) ?_
  rintro _ w ⟨f7, r8, rfl, hd9, hs⟩
  refine ⟨_, rfl, fun a hk => ?_⟩
  refine q_bsl (els := [.tmp 4, .tmp 6]) (cs := [fval f1, fval f7]) hk hs rfl Tryd.underlying132 ty102 zr102 rfl rfl rfl rfl rfl rfl rfl fun b10 w a hk hs => ?_
  have hs := hs.frz (r := lst 1 (.slice (some ⟨b10, 0, none⟩) 2 2) 2 (el fcv [f1, f7])) (blk_lst (hs.mi 0 rfl) rfl (Nat.le_refl _)) (fun _ h => (Option.some.inj h.2).symm)
  refine q_call (caps := []) hk rfl rfl Tryd.func72 fo72 rfl rfl (join_m 2 2 (some ⟨b10, 0, none⟩) _ _ _ _ hs (((DenL.nil nores).snoc hd3).snoc hd9) rfl (by omega) (HasR.nth 0 rfl) (HasR.two (HasR.nth 1 rfl) (HasR.two (HasR.nth 3 rfl) (HasR.nil)))) ?_
  rintro _ w ⟨f11, r12, rfl, hd13, hs⟩
  refine ⟨_, rfl, fun a hk => ?_⟩
  refine q_val hk (w_as rfl) rfl rfl rfl fun a hk => ?_
  refine (c_end (x_t ?_))
  refine (wpIn_ret ?_)
  refine c_ret1 hk rfl rfl ?_
  exact ⟨_, _, rfl, (by have hz := hd13; simpa [stepE] using hz), hs.subR fun q hq => memT hq (List.mem_of_getElem? (i := 0) rfl) fun x hx => List.mem_cons_of_mem _ (List.mem_cons_of_mem _ (List.mem_cons_of_mem _ (List.mem_cons_of_mem _ (List.mem_cons_of_mem _ (hx)))))⟩
theorem inverse_m {F0 : Nat → Prop} {W : World} {M R : List Res}  (w0 : World) (hs : Sat F0 W M R w0)  : Calls Tryd.prog 105 [].toArray w0 fun e w => ∃ x r, e = .returned (fval x) ∧ DenE x (inverseE) r ∧ Sat F0 W M (r :: R) w := by
  refine c_enter (args := []) Tryd.func105 rfl rfl rfl fun a hk => ?_
  refine wpIn_seq ?_
  refine wpIn_region_lit ?_
  refine q_val hk (w_as rfl) rfl rfl rfl fun a hk => ?_
  refine (c_end (x_t ?_))
  refine wpIn_seq ?_
  refine wpIn_region_lit ?_
  refine q_call (caps := []) hk rfl rfl Tryd.func75 fo75 rfl rfl (down_m 64 (118, []) stepE (nores) _ hs inverse_f HasR.nil (by omega)) ?_
  rintro _ w ⟨f1, r2, rfl, hd3, hs⟩
  refine ⟨_, rfl, fun a hk => ?_⟩
  refine q_val hk (w_as rfl) rfl rfl rfl fun a hk => ?_
  refine (c_end (x_t ?_))
  refine (wpIn_ret ?_)
  refine c_ret1 hk rfl rfl ?_
  exact ⟨_, _, rfl, hd3, hs.subR fun q hq => memT hq (List.mem_of_getElem? (i := 0) rfl) fun x hx => List.mem_cons_of_mem _ (hx)⟩
theorem weights_m {F0 : Nat → Prop} {W : World} {M R : List Res} (n : Int) (w0 : World) (hs : Sat F0 W M R w0) (hn : n ≤ 1000000) : Calls Tryd.prog 77 [.int .i64 n].toArray w0 fun e w => ∃ x r, e = .returned (fval x) ∧ DenE x (weightsE n) r ∧ Sat F0 W M (r :: R) w := by
  refine c_enter (args := [.int .i64 n]) Tryd.func77 rfl rfl rfl fun a hk => ?_
  refine wpIn_seq ?_
  refine wpIn_region_lit ?_
  refine q_val hk (w_as rfl) rfl rfl rfl fun a hk => ?_
  refine (c_end (x_t ?_))
  refine wpIn_seq ?_
  refine wpIn_seq ?_
  refine wpIn_region_lit ?_
  refine q_val hk (w_mv rfl) rfl rfl rfl fun a hk => ?_
  rcases Classical.em (n = 0) with hc1 | hc1
  · skip
    refine q_val hk (w_eq rfl rfl (decide_eq_true hc1)) rfl rfl rfl fun a hk => ?_
    refine (c_end (x_t ?_))
    refine c_T hk rfl ?_
    refine wpIn_seq ?_
    refine wpIn_region_lit ?_
    refine q_call (caps := []) hk rfl rfl Tryd.func72 fo72 rfl rfl (join_m 0 0 none _ _ _ _ hs (DenL.nil nores) rfl (by omega) HasR.lst0 (HasR.nil)) ?_
    rintro _ w ⟨f2, r3, rfl, hd4, hs⟩
    refine ⟨_, rfl, fun a hk => ?_⟩
    refine q_val hk (w_as rfl) rfl rfl rfl fun a hk => ?_
    refine (c_end (x_t ?_))
    refine (wpIn_ret (x_tr ?_))
    refine c_ret1 hk rfl rfl ?_
    exact ⟨_, _, rfl, (by have hz := hd4; first | (have e : weightsE n = [] := (by unfold weightsE; rw [if_pos hc1]); rw [e]; exact hz) | (have e : weightsE n = pairsE n false ++ upE 0 n coefE ++ inverseE ++ downE n coefE := (by unfold weightsE; rw [if_neg hc1]); rw [e]; simpa using hz)), hs.subR fun q hq => memT hq (List.mem_of_getElem? (i := 0) rfl) fun x hx => List.mem_cons_of_mem _ (hx)⟩
  · skip
    refine q_val hk (w_eq rfl rfl (decide_eq_false hc1)) rfl rfl rfl fun a hk => ?_
    refine (c_end (x_t ?_))
    refine c_F hk rfl ?_
    refine (wpIn_skip (x_t ?_))
    refine wpIn_seq ?_
    refine wpIn_region_lit ?_
    refine q_val hk (w_mv rfl) rfl rfl rfl fun a hk => ?_
    refine q_call (caps := []) hk rfl rfl Tryd.func104 fo104 rfl rfl (pairs_m n false _ hs (by omega)) ?_
    rintro _ w ⟨f5, r6, rfl, hd7, hs⟩
    refine ⟨_, rfl, fun a hk => ?_⟩
    refine q_val hk (w_mv rfl) rfl rfl rfl fun a hk => ?_
    refine q_call (caps := []) hk rfl rfl Tryd.func76 fo76 rfl rfl (kind_m 2 _ hs) ?_
    rintro _ w ⟨f8, r9, rfl, hd10, hs⟩
    refine ⟨_, rfl, fun a hk => ?_⟩
    refine q_call (caps := []) hk rfl rfl Tryd.func70 fo70 rfl rfl (up_m 0 n f8 (fun _ => True) coefE (r9) _ hs hd10 (fun _ _ _ => trivial) (HasR.nth 0 rfl) (by omega) (by omega) (by omega)) ?_
    rintro _ w ⟨f11, r12, rfl, hd13, hs⟩
    refine ⟨_, rfl, fun a hk => ?_⟩
    refine q_call (caps := []) hk rfl rfl Tryd.func105 fo105 rfl rfl (inverse_m _ hs) ?_
    rintro _ w ⟨f14, r15, rfl, hd16, hs⟩
    refine ⟨_, rfl, fun a hk => ?_⟩
    refine q_val hk (w_mv rfl) rfl rfl rfl fun a hk => ?_
    refine q_call (caps := []) hk rfl rfl Tryd.func76 fo76 rfl rfl (kind_m 2 _ hs) ?_
    rintro _ w ⟨f17, r18, rfl, hd19, hs⟩
    refine ⟨_, rfl, fun a hk => ?_⟩
    refine q_call (caps := []) hk rfl rfl Tryd.func75 fo75 rfl rfl (down_m n f17 coefE (r18) _ hs hd19 (HasR.nth 0 rfl) (by omega)) ?_
    rintro _ w ⟨f20, r21, rfl, hd22, hs⟩
    refine ⟨_, rfl, fun a hk => ?_⟩
    refine q_bsl (els := [.tmp 7, .tmp 10, .tmp 11, .tmp 14]) (cs := [fval f5, fval f11, fval f14, fval f20]) hk hs rfl Tryd.underlying132 ty102 zr102 rfl rfl rfl rfl rfl rfl rfl fun b23 w a hk hs => ?_
    have hs := hs.frz (r := lst 1 (.slice (some ⟨b23, 0, none⟩) 4 4) 4 (el fcv [f5, f11, f14, f20])) (blk_lst (hs.mi 0 rfl) rfl (Nat.le_refl _)) (fun _ h => (Option.some.inj h.2).symm)
    refine q_call (caps := []) hk rfl rfl Tryd.func72 fo72 rfl rfl (join_m 4 4 (some ⟨b23, 0, none⟩) _ _ _ _ hs (((((DenL.nil nores).snoc hd7).snoc hd13).snoc hd16).snoc hd22) rfl (by omega) (HasR.nth 0 rfl) (HasR.two (HasR.nth 1 rfl) (HasR.two (HasR.nth 3 rfl) (HasR.two (HasR.nth 4 rfl) (HasR.two (HasR.nth 6 rfl) (HasR.nil)))))) ?_
    rintro _ w ⟨f24, r25, rfl, hd26, hs⟩
    refine ⟨_, rfl, fun a hk => ?_⟩
    refine q_val hk (w_as rfl) rfl rfl rfl fun a hk => ?_
    refine (c_end (x_t ?_))
    refine (wpIn_ret ?_)
    refine c_ret1 hk rfl rfl ?_
    exact ⟨_, _, rfl, (by have hz := hd26; first | (have e : weightsE n = [] := (by unfold weightsE; rw [if_pos hc1]); rw [e]; exact hz) | (have e : weightsE n = pairsE n false ++ upE 0 n coefE ++ inverseE ++ downE n coefE := (by unfold weightsE; rw [if_neg hc1]); rw [e]; simpa using hz)), hs.subR fun q hq => memT hq (List.mem_of_getElem? (i := 0) rfl) fun x hx => List.mem_cons_of_mem _ (List.mem_cons_of_mem _ (List.mem_cons_of_mem _ (List.mem_cons_of_mem _ (List.mem_cons_of_mem _ (List.mem_cons_of_mem _ (List.mem_cons_of_mem _ (List.mem_cons_of_mem _ (hx))))))))⟩
theorem interpolate_m {F0 : Nat → Prop} {W : World} {M R : List Res} (n : Int) (w0 : World) (hs : Sat F0 W M R w0) (hn : n ≤ 1000000) : Calls Tryd.prog 78 [.int .i64 n].toArray w0 fun e w => ∃ x r, e = .returned (fval x) ∧ DenE x (interpE n) r ∧ Sat F0 W M (r :: R) w := by
  refine c_enter (args := [.int .i64 n]) Tryd.func78 rfl rfl rfl fun a hk => ?_
  refine wpIn_seq ?_
  refine wpIn_region_lit ?_
  refine q_val hk (w_as rfl) rfl rfl rfl fun a hk => ?_
  refine (c_end (x_t ?_))
  refine wpIn_seq ?_
  refine wpIn_region_lit ?_
  refine q_val hk (w_mv rfl) rfl rfl rfl fun a hk => ?_
  refine q_call (caps := []) hk rfl rfl Tryd.func77 fo77 rfl rfl (weights_m n _ hs (by omega)) ?_
  rintro _ w ⟨f1, r2, rfl, hd3, hs⟩
  refine ⟨_, rfl, fun a hk => ?_⟩
  refine q_val hk (w_mv rfl) rfl rfl rfl fun a hk => ?_
  refine q_call (caps := []) hk rfl rfl Tryd.func104 fo104 rfl rfl (pairs_m n true _ hs (by omega)) ?_
  rintro _ w ⟨f4, r5, rfl, hd6, hs⟩
  refine ⟨_, rfl, fun a hk => ?_⟩
  refine q_bsl (els := [.tmp 4, .tmp 6]) (cs := [fval f1, fval f4]) hk hs rfl Tryd.underlying132 ty102 zr102 rfl rfl rfl rfl rfl rfl rfl fun b7 w a hk hs => ?_
  have hs := hs.frz (r := lst 1 (.slice (some ⟨b7, 0, none⟩) 2 2) 2 (el fcv [f1, f4])) (blk_lst (hs.mi 0 rfl) rfl (Nat.le_refl _)) (fun _ h => (Option.some.inj h.2).symm)
  refine q_call (caps := []) hk rfl rfl Tryd.func72 fo72 rfl rfl (join_m 2 2 (some ⟨b7, 0, none⟩) _ _ _ _ hs (((DenL.nil nores).snoc hd3).snoc hd6) rfl (by omega) (HasR.nth 0 rfl) (HasR.two (HasR.nth 1 rfl) (HasR.two (HasR.nth 2 rfl) (HasR.nil)))) ?_
  rintro _ w ⟨f8, r9, rfl, hd10, hs⟩
  refine ⟨_, rfl, fun a hk => ?_⟩
  refine q_val hk (w_as rfl) rfl rfl rfl fun a hk => ?_
  refine (c_end (x_t ?_))
  refine (wpIn_ret ?_)
  refine c_ret1 hk rfl rfl ?_
  exact ⟨_, _, rfl, (by have hz := hd10; simpa [interpE] using hz), hs.subR fun q hq => memT hq (List.mem_of_getElem? (i := 0) rfl) fun x hx => List.mem_cons_of_mem _ (List.mem_cons_of_mem _ (List.mem_cons_of_mem _ (List.mem_cons_of_mem _ (hx))))⟩
def eachE (c : Int) (l : List Ev) : List Ev := upE 0 c fun k => [(4, k, 0)] ++ l
def splitE (t n c : Int) : List Ev := upE 1 (n + 1) fun i => [(5, i, 0)] ++ eachE c (downE t coefE)
def combineE (t _n c : Int) : List Ev := weightsE t ++ upE 0 t coefE ++ eachE c (upE 0 t coefE)
def checkE (t n c : Int) : List Ev := eachE c (interpE n ++ upE t n coefE)
def extendE (t _n c : Int) : List Ev := eachE c (interpE t ++ downE t coefE)
theorem each_f (x : Nat × List Value) (es : List Ev) (rx : Res) (b : Nat) (hx : DenE x es rx) : FunE (101, [.pointer (some ⟨b, 0, none⟩)]) (fun _ => True) (fun k => [(4, k, 0)] ++ es) (rall [rall [blk b [fval x] 102], rx]) := by
  refine ⟨_, Tryd.func101, fo101, fun F0 W M R w0 i hi hR hs => ?_⟩
  refine c_enter (args := [.int .i64 i, .pointer (some ⟨b, 0, none⟩)]) Tryd.func101 rfl rfl rfl fun a hk => ?_
  refine wpIn_seq ?_
  refine wpIn_region_lit ?_
  refine q_val hk (w_as rfl) rfl rfl rfl fun a hk => ?_
  refine (c_end (x_t ?_))
  refine wpIn_seq ?_
  have hL := okL.cons (((hR.pi 0 rfl).pi 0 rfl).at_ hs) okL.nil
  refine d_begin _ 6 (by kernel_rfl) rfl hs hL fun w hs hL => ?_
  refine d_v 0 1 hk hL rfl (by kernel_rfl) rfl rfl (fun w hL => w_mv rfl) fun a hk => ?_
  refine d_v 2 5 hk hL rfl (by kernel_rfl) rfl rfl (fun w hL => w_ld1 rfl ty102 (.blk (n := 1) (hL.at 0 rfl) rfl)) fun a hk => ?_
  refine d_1 1 7 rfl (by kernel_rfl) fun K hK => ?_
  refine q_call (caps := []) hk rfl rfl Tryd.func73 fo73 rfl rfl (one_m 4 i 0 _ hs) ?_
  rintro _ w ⟨f1_1, r1_1b, rfl, hd1_1c, hs⟩
  refine ⟨_, rfl, fun a hk => ?_⟩
  have hL := okL.cons (((hR.cons.pi 0 rfl).pi 0 rfl).at_ hs) okL.nil
  refine c_end (x_t (hK _ _ hL ?_))
  clear hK K
  refine d_1 3 15 rfl (by kernel_rfl) fun K hK => ?_
  refine q_bsl (els := [.tmp 5, .tmp 6]) (cs := [fval f1_1, fval x]) hk hs rfl Tryd.underlying132 ty102 zr102 rfl rfl rfl rfl rfl rfl rfl fun b1_3 w a hk hs => ?_
  have hL := okL.cons (((hR.cons.pi 0 rfl).pi 0 rfl).at_ hs) okL.nil
  refine c_end (x_t (hK _ _ hL ?_))
  clear hK K
  refine d_1 4 31 rfl (by kernel_rfl) fun K hK => ?_
  have hs := hs.frz (r := lst 1 (.slice (some ⟨b1_3, 0, none⟩) 2 2) 2 (el fcv [f1_1, x])) (blk_lst (hs.mi 0 rfl) rfl (Nat.le_refl _)) (fun _ h => (Option.some.inj h.2).symm)
  refine q_call (caps := []) hk rfl rfl Tryd.func72 fo72 rfl rfl (join_m 2 2 (some ⟨b1_3, 0, none⟩) _ _ _ _ hs (((DenL.nil nores).snoc hd1_1c).snoc hx) rfl (by omega) (HasR.nth 0 rfl) (HasR.two (hR.cons.cons.pi 1 rfl) (HasR.two (HasR.nth 1 rfl) (HasR.nil)))) ?_
  rintro _ w ⟨f1_4, r1_4b, rfl, hd1_4c, hs⟩
  refine ⟨_, rfl, fun a hk => ?_⟩
  have hL := okL.cons (((hR.cons.cons.cons.pi 0 rfl).pi 0 rfl).at_ hs) okL.nil
  refine c_end (x_t (hK _ _ hL ?_))
  clear hK K
  refine d_v 5 63 hk hL rfl (by kernel_rfl) rfl rfl (fun w hL => w_as rfl) fun a hk => ?_
  refine d_end (by kernel_rfl) ?_
  refine (x_t ?_)
  refine (wpIn_ret ?_)
  refine c_ret1 hk rfl rfl ?_
  exact ⟨_, _, rfl, (by have hz := hd1_4c; simpa [eachE] using hz), hs.subR fun q hq => memT hq (List.mem_of_getElem? (i := 0) rfl) fun x hx => List.mem_cons_of_mem _ (List.mem_cons_of_mem _ (List.mem_cons_of_mem _ (hx)))⟩
theorem each_m {F0 : Nat → Prop} {W : World} {M R : List Res} (t n c : Int) (x : Nat × List Value) (es : List Ev) (rx : Res) (w0 : World) (hs : Sat F0 W M R w0) (hx : DenE x es rx) (hx2 : HasR rx R) (hc : c ≤ 1000000) : Calls Tryd.prog 74 [.agg #[.int .i64 t, .int .i64 n, .int .i64 c], .func (.func x.1) #[] (List.toArray x.2)].toArray w0 fun e w => ∃ x r, e = .returned (fval x) ∧ DenE x (eachE c es) r ∧ Sat F0 W M (r :: R) w := by
  refine c_enter (args := [.agg #[.int .i64 t, .int .i64 n, .int .i64 c], .func (.func x.1) #[] (List.toArray x.2)]) Tryd.func74 rfl rfl rfl fun a hk => ?_
  refine wpIn_seq ?_
  refine wpIn_region_lit ?_
  refine q_box (vs := [.int .i64 t, .int .i64 n, .int .i64 c]) hk hs rfl rfl rfl rfl fun b1 w a hk hs => ?_
  refine q_box (vs := [.func (.func x.1) #[] (List.toArray x.2)]) hk hs rfl rfl rfl rfl fun b2 w a hk hs => ?_
  refine q_val hk (w_as rfl) rfl rfl rfl fun a hk => ?_
  refine (c_end (x_t ?_))
  refine wpIn_seq ?_
  refine wpIn_region_lit ?_
  refine q_val hk (w_fa rfl fq73_2 ty3) rfl rfl rfl fun a hk => ?_
  refine q_val hk (w_ld1 rfl ty3 (.blk (n := 1) (hs.mi 1 rfl) rfl)) rfl rfl rfl fun a hk => ?_
  refine q_val hk (w_mkf (frees := [.tmp 3]) rfl) rfl rfl rfl fun a hk => ?_
  have hs := Sat.frzL (l := [blk b2 [.func (.func x.1) #[] (List.toArray x.2)] 102]) hs
  refine q_call (caps := []) hk rfl rfl Tryd.func70 fo70 rfl rfl (up_m 0 c (101, [.pointer (some ⟨b2, 0, none⟩)]) (fun _ => True) (fun k => [(4, k, 0)] ++ es) (rall [rall [blk b2 [.func (.func x.1) #[] (List.toArray x.2)] 102], rx]) _ hs (each_f x es rx b2 hx) (fun _ _ _ => trivial) (HasR.two (HasR.nth 0 rfl) (hx2.cons)) (by omega) (by omega) (by omega)) ?_
  rintro _ w ⟨f3, r4, rfl, hd5, hs⟩
  refine ⟨_, rfl, fun a hk => ?_⟩
  refine q_val hk (w_as rfl) rfl rfl rfl fun a hk => ?_
  refine (c_end (x_t ?_))
  refine (wpIn_ret ?_)
  refine c_ret1 hk rfl rfl ?_
  have hs := hs.drop
  exact ⟨_, _, rfl, hd5, hs.subR fun q hq => memT hq (List.mem_of_getElem? (i := 0) rfl) fun x hx => List.mem_cons_of_mem _ (List.mem_cons_of_mem _ (hx))⟩
theorem split_f (t n c : Int) (b : Nat) (ht : t ≤ 1000000) (hc : c ≤ 1000000) : FunE (71, [.pointer (some ⟨b, 0, none⟩)]) (fun _ => True) (fun i => [(5, i, 0)] ++ eachE c (downE t coefE)) (rall [blk b [.int .i64 t, .int .i64 n, .int .i64 c] 73]) := by
  refine ⟨_, Tryd.func71, fo71, fun F0 W M R w0 i hi hR hs => ?_⟩
  refine c_enter (args := [.int .i64 i, .pointer (some ⟨b, 0, none⟩)]) Tryd.func71 rfl rfl rfl fun a hk => ?_
  refine wpIn_seq ?_
  refine wpIn_region_lit ?_
  refine q_val hk (w_as rfl) rfl rfl rfl fun a hk => ?_
  refine (c_end (x_t ?_))
  refine wpIn_seq ?_
  have hL := okL.cons ((hR.pi 0 rfl).at_ hs) okL.nil
  refine d_begin _ 11 (by kernel_rfl) rfl hs hL fun w hs hL => ?_
  refine d_v 0 1 hk hL rfl (by kernel_rfl) rfl rfl (fun w hL => w_mv rfl) fun a hk => ?_
  refine d_v 2 5 hk hL rfl (by kernel_rfl) rfl rfl (fun w hL => w_ldA rfl ty73 (.blk (n := 3) (hL.at 0 rfl) rfl) rfl) fun a hk => ?_
  refine d_v 3 13 hk hL rfl (by kernel_rfl) rfl rfl (fun w hL => w_fa rfl fq73_0 ty3) fun a hk => ?_
  refine d_v 4 29 hk hL rfl (by kernel_rfl) rfl rfl (fun w hL => w_ld1 rfl ty3 (.blk (n := 1) (hL.at 0 rfl) rfl)) fun a hk => ?_
  refine d_1 1 31 rfl (by kernel_rfl) fun K hK => ?_
  refine q_call (caps := []) hk rfl rfl Tryd.func73 fo73 rfl rfl (one_m 5 i 0 _ hs) ?_
  rintro _ w ⟨f1_1, r1_1b, rfl, hd1_1c, hs⟩
  refine ⟨_, rfl, fun a hk => ?_⟩
  have hL := okL.cons ((hR.cons.pi 0 rfl).at_ hs) okL.nil
  refine c_end (x_t (hK _ _ hL ?_))
  clear hK K
  refine d_1 5 63 rfl (by kernel_rfl) fun K hK => ?_
  refine q_call (caps := []) hk rfl rfl Tryd.func76 fo76 rfl rfl (kind_m 2 _ hs) ?_
  rintro _ w ⟨f1_5, r1_5b, rfl, hd1_5c, hs⟩
  refine ⟨_, rfl, fun a hk => ?_⟩
  have hL := okL.cons ((hR.cons.cons.pi 0 rfl).at_ hs) okL.nil
  refine c_end (x_t (hK _ _ hL ?_))
  clear hK K
  refine d_1 6 127 rfl (by kernel_rfl) fun K hK => ?_
  refine q_call (caps := []) hk rfl rfl Tryd.func75 fo75 rfl rfl (down_m t f1_5 coefE (r1_5b) _ hs hd1_5c (HasR.nth 0 rfl) (by omega)) ?_
  rintro _ w ⟨f1_6, r1_6b, rfl, hd1_6c, hs⟩
  refine ⟨_, rfl, fun a hk => ?_⟩
  have hL := okL.cons ((hR.cons.cons.cons.pi 0 rfl).at_ hs) okL.nil
  refine c_end (x_t (hK _ _ hL ?_))
  clear hK K
  refine d_1 7 255 rfl (by kernel_rfl) fun K hK => ?_
  refine q_call (caps := []) hk rfl rfl Tryd.func74 fo74 rfl rfl (each_m t n c f1_6 _ _ _ hs hd1_6c (HasR.nth 0 rfl) (by omega)) ?_
  rintro _ w ⟨f1_7, r1_7b, rfl, hd1_7c, hs⟩
  refine ⟨_, rfl, fun a hk => ?_⟩
  have hL := okL.cons ((hR.cons.cons.cons.cons.pi 0 rfl).at_ hs) okL.nil
  refine c_end (x_t (hK _ _ hL ?_))
  clear hK K
  refine d_1 8 511 rfl (by kernel_rfl) fun K hK => ?_
  refine q_bsl (els := [.tmp 5, .tmp 11]) (cs := [fval f1_1, fval f1_7]) hk hs rfl Tryd.underlying132 ty102 zr102 rfl rfl rfl rfl rfl rfl rfl fun b1_8 w a hk hs => ?_
  have hL := okL.cons ((hR.cons.cons.cons.cons.pi 0 rfl).at_ hs) okL.nil
  refine c_end (x_t (hK _ _ hL ?_))
  clear hK K
  refine d_1 9 1023 rfl (by kernel_rfl) fun K hK => ?_
  have hs := hs.frz (r := lst 1 (.slice (some ⟨b1_8, 0, none⟩) 2 2) 2 (el fcv [f1_1, f1_7])) (blk_lst (hs.mi 0 rfl) rfl (Nat.le_refl _)) (fun _ h => (Option.some.inj h.2).symm)
  refine q_call (caps := []) hk rfl rfl Tryd.func72 fo72 rfl rfl (join_m 2 2 (some ⟨b1_8, 0, none⟩) _ _ _ _ hs (((DenL.nil nores).snoc hd1_1c).snoc hd1_7c) rfl (by omega) (HasR.nth 0 rfl) (HasR.two (HasR.nth 1 rfl) (HasR.two (HasR.nth 4 rfl) (HasR.nil)))) ?_
  rintro _ w ⟨f1_9, r1_9b, rfl, hd1_9c, hs⟩
  refine ⟨_, rfl, fun a hk => ?_⟩
  have hL := okL.cons ((hR.cons.cons.cons.cons.cons.cons.pi 0 rfl).at_ hs) okL.nil
  refine c_end (x_t (hK _ _ hL ?_))
  clear hK K
  refine d_v 10 2047 hk hL rfl (by kernel_rfl) rfl rfl (fun w hL => w_as rfl) fun a hk => ?_
  refine d_end (by kernel_rfl) ?_
  refine (x_t ?_)
  refine (wpIn_ret ?_)
  refine c_ret1 hk rfl rfl ?_
  exact ⟨_, _, rfl, (by have hz := hd1_9c; simpa using hz), hs.subR fun q hq => memT hq (List.mem_of_getElem? (i := 0) rfl) fun x hx => List.mem_cons_of_mem _ (List.mem_cons_of_mem _ (List.mem_cons_of_mem _ (List.mem_cons_of_mem _ (List.mem_cons_of_mem _ (List.mem_cons_of_mem _ (hx))))))⟩
theorem split_m {F0 : Nat → Prop} {W : World} {M R : List Res} (t n c : Int) (w0 : World) (hs : Sat F0 W M R w0) (ht : t ≤ 1000000) (hn : n < 1000000) (hc : c ≤ 1000000) (hn0 : 0 ≤ n) : Calls Tryd.prog 43 [.agg #[.int .i64 t, .int .i64 n, .int .i64 c]].toArray w0 fun e w => ∃ x r, e = .returned (fval x) ∧ DenE x (splitE t n c) r ∧ Sat F0 W M (r :: R) w := by
  refine c_enter (args := [.agg #[.int .i64 t, .int .i64 n, .int .i64 c]]) Tryd.func43 rfl rfl rfl fun a hk => ?_
  refine wpIn_seq ?_
  refine wpIn_region_lit ?_
  refine q_box (vs := [.int .i64 t, .int .i64 n, .int .i64 c]) hk hs rfl rfl rfl rfl fun b1 w a hk hs => ?_
  refine q_val hk (w_as rfl) rfl rfl rfl fun a hk => ?_
  refine (c_end (x_t ?_))
  refine wpIn_seq ?_
  refine wpIn_region_lit ?_
  refine q_val hk (w_fa rfl fq73_1 ty3) rfl rfl rfl fun a hk => ?_
  refine q_val hk (w_ld1 rfl ty3 (.blk (n := 1) (hs.mi 0 rfl) rfl)) rfl rfl rfl fun a hk => ?_
  refine q_val hk (w_add rfl rfl (wr64 (by omega) (by omega))) rfl rfl rfl fun a hk => ?_
  refine q_val hk (w_mkf (frees := [.tmp 1]) rfl) rfl rfl rfl fun a hk => ?_
  have hs := Sat.frzL (l := [blk b1 [.int .i64 t, .int .i64 n, .int .i64 c] 73]) hs
  refine q_call (caps := []) hk rfl rfl Tryd.func70 fo70 rfl rfl (up_m 1 (n + 1) (71, [.pointer (some ⟨b1, 0, none⟩)]) (fun _ => True) (fun i => [(5, i, 0)] ++ eachE c (downE t coefE)) (rall [blk b1 [.int .i64 t, .int .i64 n, .int .i64 c] 73]) _ hs (split_f t n c b1 ht hc) (fun _ _ _ => trivial) (HasR.nth 0 rfl) (by omega) (by omega) (by omega)) ?_
  rintro _ w ⟨f2, r3, rfl, hd4, hs⟩
  refine ⟨_, rfl, fun a hk => ?_⟩
  refine q_val hk (w_as rfl) rfl rfl rfl fun a hk => ?_
  refine (c_end (x_t ?_))
  refine (wpIn_ret ?_)
  refine c_ret1 hk rfl rfl ?_
  exact ⟨_, _, rfl, hd4, hs.subR fun q hq => memT hq (List.mem_of_getElem? (i := 0) rfl) fun x hx => List.mem_cons_of_mem _ (List.mem_cons_of_mem _ (hx))⟩
theorem combine_m {F0 : Nat → Prop} {W : World} {M R : List Res} (t n c : Int) (w0 : World) (hs : Sat F0 W M R w0) (ht : t ≤ 1000000) (hn : n < 1000000) (hc : c ≤ 1000000) : Calls Tryd.prog 44 [.agg #[.int .i64 t, .int .i64 n, .int .i64 c]].toArray w0 fun e w => ∃ x r, e = .returned (fval x) ∧ DenE x (combineE t n c) r ∧ Sat F0 W M (r :: R) w := by
  refine c_enter (args := [.agg #[.int .i64 t, .int .i64 n, .int .i64 c]]) Tryd.func44 rfl rfl rfl fun a hk => ?_
  refine wpIn_seq ?_
  refine wpIn_region_lit ?_
  refine q_box (vs := [.int .i64 t, .int .i64 n, .int .i64 c]) hk hs rfl rfl rfl rfl fun b1 w a hk hs => ?_
  refine q_val hk (w_as rfl) rfl rfl rfl fun a hk => ?_
  refine (c_end (x_t ?_))
  refine wpIn_seq ?_
  have hL := okL.cons (hs.mi 0 rfl) okL.nil
  refine d_begin _ 5 (by kernel_rfl) rfl hs hL fun w hs hL => ?_
  refine d_v 0 1 hk hL rfl (by kernel_rfl) rfl rfl (fun w hL => w_fa rfl fq73_0 ty3) fun a hk => ?_
  refine d_v 1 3 hk hL rfl (by kernel_rfl) rfl rfl (fun w hL => w_ld1 rfl ty3 (.blk (n := 1) (hL.at 0 rfl) rfl)) fun a hk => ?_
  refine d_1 2 7 rfl (by kernel_rfl) fun K hK => ?_
  refine q_call (caps := []) hk rfl rfl Tryd.func76 fo76 rfl rfl (kind_m 2 _ hs) ?_
  rintro _ w ⟨f1_2, r1_2b, rfl, hd1_2c, hs⟩
  refine ⟨_, rfl, fun a hk => ?_⟩
  have hL := okL.cons (hs.mi 0 rfl) okL.nil
  refine c_end (x_t (hK _ _ hL ?_))
  clear hK K
  refine d_1 3 15 rfl (by kernel_rfl) fun K hK => ?_
  refine q_call (caps := []) hk rfl rfl Tryd.func70 fo70 rfl rfl (up_m 0 t f1_2 (fun _ => True) coefE (r1_2b) _ hs hd1_2c (fun _ _ _ => trivial) (HasR.nth 0 rfl) (by omega) (by omega) (by omega)) ?_
  rintro _ w ⟨f1_3, r1_3b, rfl, hd1_3c, hs⟩
  refine ⟨_, rfl, fun a hk => ?_⟩
  have hL := okL.cons (hs.mi 0 rfl) okL.nil
  refine c_end (x_t (hK _ _ hL ?_))
  clear hK K
  refine d_v 4 31 hk hL rfl (by kernel_rfl) rfl rfl (fun w hL => w_as rfl) fun a hk => ?_
  refine d_end (by kernel_rfl) ?_
  refine (x_t ?_)
  refine wpIn_seq ?_
  have hL := okL.cons (hs.mi 0 rfl) okL.nil
  refine d_begin _ 10 (by kernel_rfl) rfl hs hL fun w hs hL => ?_
  refine d_v 0 1 hk hL rfl (by kernel_rfl) rfl rfl (fun w hL => w_fa rfl fq73_0 ty3) fun a hk => ?_
  refine d_v 1 3 hk hL rfl (by kernel_rfl) rfl rfl (fun w hL => w_ld1 rfl ty3 (.blk (n := 1) (hL.at 0 rfl) rfl)) fun a hk => ?_
  refine d_v 3 11 hk hL rfl (by kernel_rfl) rfl rfl (fun w hL => w_mv rfl) fun a hk => ?_
  refine d_v 4 27 hk hL rfl (by kernel_rfl) rfl rfl (fun w hL => w_ldA rfl ty73 (.blk (n := 3) (hL.at 0 rfl) rfl) rfl) fun a hk => ?_
  refine d_v 5 59 hk hL rfl (by kernel_rfl) rfl rfl (fun w hL => w_mv rfl) fun a hk => ?_
  refine d_1 2 63 rfl (by kernel_rfl) fun K hK => ?_
  refine q_call (caps := []) hk rfl rfl Tryd.func77 fo77 rfl rfl (weights_m t _ hs (by omega)) ?_
  rintro _ w ⟨f2_2, r2_2b, rfl, hd2_2c, hs⟩
  refine ⟨_, rfl, fun a hk => ?_⟩
  have hL := okL.cons (hs.mi 0 rfl) okL.nil
  refine c_end (x_t (hK _ _ hL ?_))
  clear hK K
  refine d_1 6 127 rfl (by kernel_rfl) fun K hK => ?_
  refine q_call (caps := []) hk rfl rfl Tryd.func74 fo74 rfl rfl (each_m t n c f1_3 _ _ _ hs hd1_3c (HasR.nth 1 rfl) (by omega)) ?_
  rintro _ w ⟨f2_6, r2_6b, rfl, hd2_6c, hs⟩
  refine ⟨_, rfl, fun a hk => ?_⟩
  have hL := okL.cons (hs.mi 0 rfl) okL.nil
  refine c_end (x_t (hK _ _ hL ?_))
  clear hK K
  refine d_1 7 255 rfl (by kernel_rfl) fun K hK => ?_
  refine q_bsl (els := [.tmp 10, .tmp 11, .tmp 14]) (cs := [fval f2_2, fval f1_3, fval f2_6]) hk hs rfl Tryd.underlying132 ty102 zr102 rfl rfl rfl rfl rfl rfl rfl fun b2_7 w a hk hs => ?_
  have hL := okL.cons (hs.mi 1 rfl) okL.nil
  refine c_end (x_t (hK _ _ hL ?_))
  clear hK K
  refine d_1 8 511 rfl (by kernel_rfl) fun K hK => ?_
  have hs := hs.frz (r := lst 1 (.slice (some ⟨b2_7, 0, none⟩) 3 3) 3 (el fcv [f2_2, f1_3, f2_6])) (blk_lst (hs.mi 0 rfl) rfl (Nat.le_refl _)) (fun _ h => (Option.some.inj h.2).symm)
  refine q_call (caps := []) hk rfl rfl Tryd.func72 fo72 rfl rfl (join_m 3 3 (some ⟨b2_7, 0, none⟩) _ _ _ _ hs ((((DenL.nil nores).snoc hd2_2c).snoc hd1_3c).snoc hd2_6c) rfl (by omega) (HasR.nth 0 rfl) (HasR.two (HasR.nth 1 rfl) (HasR.two (HasR.nth 3 rfl) (HasR.two (HasR.nth 2 rfl) (HasR.nil))))) ?_
  rintro _ w ⟨f2_8, r2_8b, rfl, hd2_8c, hs⟩
  refine ⟨_, rfl, fun a hk => ?_⟩
  have hL := okL.cons (hs.mi 0 rfl) okL.nil
  refine c_end (x_t (hK _ _ hL ?_))
  clear hK K
  refine d_v 9 1023 hk hL rfl (by kernel_rfl) rfl rfl (fun w hL => w_as rfl) fun a hk => ?_
  refine d_end (by kernel_rfl) ?_
  refine (x_t ?_)
  refine (wpIn_ret ?_)
  refine c_ret1 hk rfl rfl ?_
  have hs := hs.drop
  exact ⟨_, _, rfl, (by have hz := hd2_8c; simpa [combineE] using hz), hs.subR fun q hq => memT hq (List.mem_of_getElem? (i := 0) rfl) fun x hx => List.mem_cons_of_mem _ (List.mem_cons_of_mem _ (List.mem_cons_of_mem _ (List.mem_cons_of_mem _ (List.mem_cons_of_mem _ (List.mem_cons_of_mem _ (hx))))))⟩
theorem check_m {F0 : Nat → Prop} {W : World} {M R : List Res} (t n c : Int) (w0 : World) (hs : Sat F0 W M R w0) (ht : t ≤ 1000000) (hn : n < 1000000) (hc : c ≤ 1000000) (ht0 : 0 ≤ t) : Calls Tryd.prog 45 [.agg #[.int .i64 t, .int .i64 n, .int .i64 c]].toArray w0 fun e w => ∃ x r, e = .returned (fval x) ∧ DenE x (checkE t n c) r ∧ Sat F0 W M (r :: R) w := by
  refine c_enter (args := [.agg #[.int .i64 t, .int .i64 n, .int .i64 c]]) Tryd.func45 rfl rfl rfl fun a hk => ?_
  refine wpIn_seq ?_
  refine wpIn_region_lit ?_
  refine q_box (vs := [.int .i64 t, .int .i64 n, .int .i64 c]) hk hs rfl rfl rfl rfl fun b1 w a hk hs => ?_
  refine q_val hk (w_as rfl) rfl rfl rfl fun a hk => ?_
  refine (c_end (x_t ?_))
  refine wpIn_seq ?_
  have hL := okL.cons (hs.mi 0 rfl) okL.nil
  refine d_begin _ 14 (by kernel_rfl) rfl hs hL fun w hs hL => ?_
  refine d_v 0 1 hk hL rfl (by kernel_rfl) rfl rfl (fun w hL => w_ldA rfl ty73 (.blk (n := 3) (hL.at 0 rfl) rfl) rfl) fun a hk => ?_
  refine d_v 1 3 hk hL rfl (by kernel_rfl) rfl rfl (fun w hL => w_fa rfl fq73_1 ty3) fun a hk => ?_
  refine d_v 2 7 hk hL rfl (by kernel_rfl) rfl rfl (fun w hL => w_ld1 rfl ty3 (.blk (n := 1) (hL.at 0 rfl) rfl)) fun a hk => ?_
  refine d_v 4 23 hk hL rfl (by kernel_rfl) rfl rfl (fun w hL => w_fa rfl fq73_0 ty3) fun a hk => ?_
  refine d_v 5 55 hk hL rfl (by kernel_rfl) rfl rfl (fun w hL => w_ld1 rfl ty3 (.blk (n := 1) (hL.at 0 rfl) rfl)) fun a hk => ?_
  refine d_v 6 119 hk hL rfl (by kernel_rfl) rfl rfl (fun w hL => w_fa rfl fq73_1 ty3) fun a hk => ?_
  refine d_v 7 247 hk hL rfl (by kernel_rfl) rfl rfl (fun w hL => w_ld1 rfl ty3 (.blk (n := 1) (hL.at 0 rfl) rfl)) fun a hk => ?_
  refine d_1 3 255 rfl (by kernel_rfl) fun K hK => ?_
  refine q_call (caps := []) hk rfl rfl Tryd.func78 fo78 rfl rfl (interpolate_m n _ hs (by omega)) ?_
  rintro _ w ⟨f1_3, r1_3b, rfl, hd1_3c, hs⟩
  refine ⟨_, rfl, fun a hk => ?_⟩
  have hL := okL.cons (hs.mi 0 rfl) okL.nil
  refine c_end (x_t (hK _ _ hL ?_))
  clear hK K
  refine d_1 8 511 rfl (by kernel_rfl) fun K hK => ?_
  refine q_call (caps := []) hk rfl rfl Tryd.func76 fo76 rfl rfl (kind_m 2 _ hs) ?_
  rintro _ w ⟨f1_8, r1_8b, rfl, hd1_8c, hs⟩
  refine ⟨_, rfl, fun a hk => ?_⟩
  have hL := okL.cons (hs.mi 0 rfl) okL.nil
  refine c_end (x_t (hK _ _ hL ?_))
  clear hK K
  refine d_1 9 1023 rfl (by kernel_rfl) fun K hK => ?_
  refine q_call (caps := []) hk rfl rfl Tryd.func70 fo70 rfl rfl (up_m t n f1_8 (fun _ => True) coefE (r1_8b) _ hs hd1_8c (fun _ _ _ => trivial) (HasR.nth 0 rfl) (by omega) (by omega) (by omega)) ?_
  rintro _ w ⟨f1_9, r1_9b, rfl, hd1_9c, hs⟩
  refine ⟨_, rfl, fun a hk => ?_⟩
  have hL := okL.cons (hs.mi 0 rfl) okL.nil
  refine c_end (x_t (hK _ _ hL ?_))
  clear hK K
  refine d_1 10 2047 rfl (by kernel_rfl) fun K hK => ?_
  refine q_bsl (els := [.tmp 6, .tmp 12]) (cs := [fval f1_3, fval f1_9]) hk hs rfl Tryd.underlying132 ty102 zr102 rfl rfl rfl rfl rfl rfl rfl fun b1_10 w a hk hs => ?_
  have hL := okL.cons (hs.mi 1 rfl) okL.nil
  refine c_end (x_t (hK _ _ hL ?_))
  clear hK K
  refine d_1 11 4095 rfl (by kernel_rfl) fun K hK => ?_
  have hs := hs.frz (r := lst 1 (.slice (some ⟨b1_10, 0, none⟩) 2 2) 2 (el fcv [f1_3, f1_9])) (blk_lst (hs.mi 0 rfl) rfl (Nat.le_refl _)) (fun _ h => (Option.some.inj h.2).symm)
  refine q_call (caps := []) hk rfl rfl Tryd.func72 fo72 rfl rfl (join_m 2 2 (some ⟨b1_10, 0, none⟩) _ _ _ _ hs (((DenL.nil nores).snoc hd1_3c).snoc hd1_9c) rfl (by omega) (HasR.nth 0 rfl) (HasR.two (HasR.nth 1 rfl) (HasR.two (HasR.nth 3 rfl) (HasR.nil)))) ?_
  rintro _ w ⟨f1_11, r1_11b, rfl, hd1_11c, hs⟩
  refine ⟨_, rfl, fun a hk => ?_⟩
  have hL := okL.cons (hs.mi 0 rfl) okL.nil
  refine c_end (x_t (hK _ _ hL ?_))
  clear hK K
  refine d_1 12 8191 rfl (by kernel_rfl) fun K hK => ?_
  refine q_call (caps := []) hk rfl rfl Tryd.func74 fo74 rfl rfl (each_m t n c f1_11 _ _ _ hs hd1_11c (HasR.nth 0 rfl) (by omega)) ?_
  rintro _ w ⟨f1_12, r1_12b, rfl, hd1_12c, hs⟩
  refine ⟨_, rfl, fun a hk => ?_⟩
  have hL := okL.cons (hs.mi 0 rfl) okL.nil
  refine c_end (x_t (hK _ _ hL ?_))
  clear hK K
  refine d_v 13 16383 hk hL rfl (by kernel_rfl) rfl rfl (fun w hL => w_as rfl) fun a hk => ?_
  refine d_end (by kernel_rfl) ?_
  refine (x_t ?_)
  refine (wpIn_ret ?_)
  refine c_ret1 hk rfl rfl ?_
  have hs := hs.drop
  exact ⟨_, _, rfl, (by have hz := hd1_12c; simpa [checkE] using hz), hs.subR fun q hq => memT hq (List.mem_of_getElem? (i := 0) rfl) fun x hx => List.mem_cons_of_mem _ (List.mem_cons_of_mem _ (List.mem_cons_of_mem _ (List.mem_cons_of_mem _ (List.mem_cons_of_mem _ (List.mem_cons_of_mem _ (hx))))))⟩
theorem extend_m {F0 : Nat → Prop} {W : World} {M R : List Res} (t n c : Int) (w0 : World) (hs : Sat F0 W M R w0) (ht : t ≤ 1000000) (hn : n < 1000000) (hc : c ≤ 1000000) : Calls Tryd.prog 46 [.agg #[.int .i64 t, .int .i64 n, .int .i64 c]].toArray w0 fun e w => ∃ x r, e = .returned (fval x) ∧ DenE x (extendE t n c) r ∧ Sat F0 W M (r :: R) w := by
  refine c_enter (args := [.agg #[.int .i64 t, .int .i64 n, .int .i64 c]]) Tryd.func46 rfl rfl rfl fun a hk => ?_
  refine wpIn_seq ?_
  refine wpIn_region_lit ?_
  refine q_box (vs := [.int .i64 t, .int .i64 n, .int .i64 c]) hk hs rfl rfl rfl rfl fun b1 w a hk hs => ?_
  refine q_val hk (w_as rfl) rfl rfl rfl fun a hk => ?_
  refine (c_end (x_t ?_))
  refine wpIn_seq ?_
  have hL := okL.cons (hs.mi 0 rfl) okL.nil
  refine d_begin _ 12 (by kernel_rfl) rfl hs hL fun w hs hL => ?_
  refine d_v 0 1 hk hL rfl (by kernel_rfl) rfl rfl (fun w hL => w_ldA rfl ty73 (.blk (n := 3) (hL.at 0 rfl) rfl) rfl) fun a hk => ?_
  refine d_v 1 3 hk hL rfl (by kernel_rfl) rfl rfl (fun w hL => w_fa rfl fq73_0 ty3) fun a hk => ?_
  refine d_v 2 7 hk hL rfl (by kernel_rfl) rfl rfl (fun w hL => w_ld1 rfl ty3 (.blk (n := 1) (hL.at 0 rfl) rfl)) fun a hk => ?_
  refine d_v 4 23 hk hL rfl (by kernel_rfl) rfl rfl (fun w hL => w_fa rfl fq73_0 ty3) fun a hk => ?_
  refine d_v 5 55 hk hL rfl (by kernel_rfl) rfl rfl (fun w hL => w_ld1 rfl ty3 (.blk (n := 1) (hL.at 0 rfl) rfl)) fun a hk => ?_
  refine d_1 3 63 rfl (by kernel_rfl) fun K hK => ?_
  refine q_call (caps := []) hk rfl rfl Tryd.func78 fo78 rfl rfl (interpolate_m t _ hs (by omega)) ?_
  rintro _ w ⟨f1_3, r1_3b, rfl, hd1_3c, hs⟩
  refine ⟨_, rfl, fun a hk => ?_⟩
  have hL := okL.cons (hs.mi 0 rfl) okL.nil
  refine c_end (x_t (hK _ _ hL ?_))
  clear hK K
  refine d_1 6 127 rfl (by kernel_rfl) fun K hK => ?_
  refine q_call (caps := []) hk rfl rfl Tryd.func76 fo76 rfl rfl (kind_m 2 _ hs) ?_
  rintro _ w ⟨f1_6, r1_6b, rfl, hd1_6c, hs⟩
  refine ⟨_, rfl, fun a hk => ?_⟩
  have hL := okL.cons (hs.mi 0 rfl) okL.nil
  refine c_end (x_t (hK _ _ hL ?_))
  clear hK K
  refine d_1 7 255 rfl (by kernel_rfl) fun K hK => ?_
  refine q_call (caps := []) hk rfl rfl Tryd.func75 fo75 rfl rfl (down_m t f1_6 coefE (r1_6b) _ hs hd1_6c (HasR.nth 0 rfl) (by omega)) ?_
  rintro _ w ⟨f1_7, r1_7b, rfl, hd1_7c, hs⟩
  refine ⟨_, rfl, fun a hk => ?_⟩
  have hL := okL.cons (hs.mi 0 rfl) okL.nil
  refine c_end (x_t (hK _ _ hL ?_))
  clear hK K
  refine d_1 8 511 rfl (by kernel_rfl) fun K hK => ?_
  refine q_bsl (els := [.tmp 6, .tmp 10]) (cs := [fval f1_3, fval f1_7]) hk hs rfl Tryd.underlying132 ty102 zr102 rfl rfl rfl rfl rfl rfl rfl fun b1_8 w a hk hs => ?_
  have hL := okL.cons (hs.mi 1 rfl) okL.nil
  refine c_end (x_t (hK _ _ hL ?_))
  clear hK K
  refine d_1 9 1023 rfl (by kernel_rfl) fun K hK => ?_
  have hs := hs.frz (r := lst 1 (.slice (some ⟨b1_8, 0, none⟩) 2 2) 2 (el fcv [f1_3, f1_7])) (blk_lst (hs.mi 0 rfl) rfl (Nat.le_refl _)) (fun _ h => (Option.some.inj h.2).symm)
  refine q_call (caps := []) hk rfl rfl Tryd.func72 fo72 rfl rfl (join_m 2 2 (some ⟨b1_8, 0, none⟩) _ _ _ _ hs (((DenL.nil nores).snoc hd1_3c).snoc hd1_7c) rfl (by omega) (HasR.nth 0 rfl) (HasR.two (HasR.nth 1 rfl) (HasR.two (HasR.nth 3 rfl) (HasR.nil)))) ?_
  rintro _ w ⟨f1_9, r1_9b, rfl, hd1_9c, hs⟩
  refine ⟨_, rfl, fun a hk => ?_⟩
  have hL := okL.cons (hs.mi 0 rfl) okL.nil
  refine c_end (x_t (hK _ _ hL ?_))
  clear hK K
  refine d_1 10 2047 rfl (by kernel_rfl) fun K hK => ?_
  refine q_call (caps := []) hk rfl rfl Tryd.func74 fo74 rfl rfl (each_m t n c f1_9 _ _ _ hs hd1_9c (HasR.nth 0 rfl) (by omega)) ?_
  rintro _ w ⟨f1_10, r1_10b, rfl, hd1_10c, hs⟩
  refine ⟨_, rfl, fun a hk => ?_⟩
  have hL := okL.cons (hs.mi 0 rfl) okL.nil
  refine c_end (x_t (hK _ _ hL ?_))
  clear hK K
  refine d_v 11 4095 hk hL rfl (by kernel_rfl) rfl rfl (fun w hL => w_as rfl) fun a hk => ?_
  refine d_end (by kernel_rfl) ?_
  refine (x_t ?_)
  refine (wpIn_ret ?_)
  refine c_ret1 hk rfl rfl ?_
  have hs := hs.drop
  exact ⟨_, _, rfl, (by have hz := hd1_10c; simpa [extendE] using hz), hs.subR fun q hq => memT hq (List.mem_of_getElem? (i := 0) rfl) fun x hx => List.mem_cons_of_mem _ (List.mem_cons_of_mem _ (List.mem_cons_of_mem _ (List.mem_cons_of_mem _ (List.mem_cons_of_mem _ (List.mem_cons_of_mem _ (hx))))))⟩
end Go.Proofs.YtpggmebgndkpjaaDoor
