/- bytes.Repeat: some bytes, as many as are asked for. -/
import Derived.Test.YtpggmebgndkpjaaDoorCopy
import Derived.Test.YtpggmebgndkpjaaDoorTy
import Derived.Laws.Externs
namespace Go.Proofs.YtpggmebgndkpjaaDoor
set_option linter.all false
open Go Go.RowKit

def dgN : Nat → Nat → List Nat | 0, _ => [] | n + 1, t => (t % 256) :: dgN n (t / 256)
theorem dgN_len : ∀ n t, (dgN n t).length = n | 0, _ => rfl | n + 1, t => by simp [dgN, dgN_len n]
theorem dgN_lt : ∀ n t, ∀ x ∈ dgN n t, x < 256
  | 0, _, x, h => by cases h
  | n + 1, t, x, h => by
    rcases List.mem_cons.1 h with rfl | h
    · exact Nat.mod_lt _ (by decide)
    · exact dgN_lt n _ x h
theorem digits_eq : ∀ n t acc, Extern.BytealgMakeNoZero.digits n t acc = acc ++ (el bc (dgN n t)).toArray
  | 0, t, acc => by simp [Extern.BytealgMakeNoZero.digits, dgN, el]
  | n + 1, t, acc => by
    rw [Extern.BytealgMakeNoZero.digits, digits_eq n]
    apply Array.ext'
    simp [dgN, el, bc]
theorem mnz_eq (p : Array TypeId) (t : TypeId) (n : Int) : Extern.BytealgMakeNoZero.makeNoZero p #[t] #[.int .i64 n] = (do
    let .slice elem ← underlying t | stuck "bytealg.MakeNoZero: slice type expected"
    if n < 0 || n > 2 ^ 48 then runtimePanic (.error "makeslice: len out of range")
    let cap ← choose (.appendCap n.toNat 0 elem)
    askRoom cap
    let bytes ← choose (.extern "internal/bytealg.MakeNoZero.bytes" 0)
    let a ← newRow elem (Extern.BytealgMakeNoZero.digits cap bytes #[])
    pure (.slice (some a) n.toNat cap)) := rfl
set_option maxRecDepth 100000 in
theorem mnz_run (n : Nat) (hn : n ≤ 1000000) (W : World) : ∃ l c w', (callFunc 67 #[.int .i64 (n : Int)]).run Tryd.prog W = .ok (.value (.slice (some ⟨W.heap.size, 0, none⟩) n c)) w' ∧ l.length = c ∧ n ≤ c ∧ (∀ x ∈ l, x < 256) ∧ Below W.heap.size W w' ∧
    w'.heap[W.heap.size]? = some (.cells (el bc l).toArray 5 (0, 0)) := by
  have h1 : ¬ ((n : Int) < 0 ∨ (281474976710656 : Int) < (n : Int)) := by omega
  have hc := grownCap_ge W n 0 5
  rw [run_callFunc_extern Tryd.func67 (by kernel_rfl) (by kernel_rfl) (by kernel_rfl) (e := Extern.BytealgMakeNoZero.makeNoZero #[3] #[53]) (by kernel_rfl)]
  simp [mnz_eq, run_underlying Tryd.underlying53, Question.forced, newRow, h1, digits_eq]
  exact ⟨_, _, _, ⟨rfl, rfl⟩, dgN_len _ _, hc, dgN_lt _ _, (((Below.refl _ _).drew).drew).alloc (Nat.le_refl _) _, heap_alloc_new _ _⟩
theorem sla0 {b m s : Nat} : sla (some ⟨b, 0, none⟩) m 0 s = some ⟨b, 0, none⟩ := by
  unfold sla
  split
  · rfl
  · rw [Nat.zero_mul]; rfl
section
variable {P : Program} {G : List (Nat × Value)} {w w' : World} {d : Option Nat} {T : Nat} {p : String} {e : Array Edge} {g : Option (Nat × Bool)} {f x : Operand}
theorem w_extern {k : Nat} {u v : Value} {ts : Array TypeId} (hf : evq G f = some (.func (.func k) #[] #[])) (hx : evq G x = some u) (hr : (callFunc k #[u]).run P w = .ok (.value v) w') : Wq P G ⟨d, .call ⟨.value f, #[x], ts⟩, T, p, e, g⟩ v w w' := .of2 hf hx fun ev h1 h2 => by
  simp [execOp, resolve, h1, h2, Deferred.ofValue, invoke, Sem.run_bind, hr]
end
theorem mnz_sat {F0 : Nat → Prop} {W w : World} {M R : List Res} (hs : Sat F0 W M R w) (n : Nat) (hn : n ≤ 1000000) : ∃ b l c w', (callFunc 67 #[.int .i64 (n : Int)]).run Tryd.prog w = .ok (.value (.slice (some ⟨b, 0, none⟩) n c)) w' ∧ l.length = c ∧ n ≤ c ∧ (∀ x ∈ l, x < 256) ∧
    Sat F0 W (blk b (el bc l) 5 :: M) R w' := by
  obtain ⟨l, c, w', hr, h1, h2, h3, hb, hh⟩ := mnz_run n hn w
  exact ⟨_, l, c, w', hr, h1, h2, h3, hs.new (m := blk w.heap.size (el bc l) 5) (.ofBelow hb) hh fun k hk => by cases hk; exact Nat.le_refl _⟩
theorem sla_at {b m l : Nat} (h : l < m) : sla (some ⟨b, 0, none⟩) m l 1 = some ⟨b, l, none⟩ := by
  unfold sla
  rw [if_neg (by omega), Option.map_some, add_pos, Nat.zero_add, Nat.mul_one]
theorem blkB_lst {w : World} {b t n cc : Nat} {l : List Nat} (h : (blk b (el bc l) t).ok w) (hn : n ≤ l.length) (hc : n ≤ cc) : LstAt w 1 (.slice (some ⟨b, 0, none⟩) n cc) n (el bc (l.take n)) := by
  have h0 := blk_lst (s := 1) (n := l.length) (cc := l.length) h (el_len bc_len) (Nat.le_refl _)
  have h1 := subB (l := 0) (h := n) (m := cc) (L := l) (n := l.length) (cc := max cc l.length) ⟨h0.len, by
    obtain ⟨a', c', he, _, hz, hx⟩ := h0.at_
    cases he
    exact ⟨_, _, rfl, by omega, (fun h => by cases h), hx⟩⟩ (by omega) hn hc (by omega)
  rw [sla0, Nat.sub_zero, Nat.sub_zero] at h1
  exact h1
theorem mul1_c (n : Nat) (hn : n < 9223372036854775808) (w : World) : Calls Tryd.prog 66 #[.int .u64 1, .int .u64 (n : Int)] w fun e w' => e = .returned (.tuple #[.int .u64 0, .int .u64 (n : Int)]) ∧ w = w' := by
  have h := Tryd.bits_Mul 1 n (by decide) (by omega) w
  rw [Nat.one_mul, Nat.div_eq_of_lt (by omega), Nat.mod_eq_of_lt (by omega)] at h
  exact h.mono fun e w' q => ⟨q.1, q.2.symm⟩
theorem repeat_c (la : Option Addr) (lc x n : Nat) (W : World) (H : LstAt W 1 (.slice la 1 lc) 1 (el bc [x])) (hx : x < 256) (h1 : 8192 < n) (h2 : n ≤ 1000000) : Calls Tryd.prog 41 [.slice la 1 lc, .int .i64 ((n : Nat) : Int)].toArray W fun e w => ∃ b l c, e = .returned (.slice (some ⟨b, 0, none⟩) n n) ∧ Sat no W [blk b (el bc l) 5] [] w ∧ l.length = c ∧ n ≤ c ∧ (∀ x ∈ l, x < 256) := by
  refine c_enter (args := [.slice la 1 lc, .int .i64 ((n : Nat) : Int)]) Tryd.func41 rfl rfl rfl fun a hk => ?_
  have hs := Sat.start W [lst 1 (.slice la 1 lc) 1 (el bc ([x]))] (okr1 H)
  refine wpIn_seq ?_
  refine wpIn_region_lit ?_
  refine q_val hk (w_as rfl) rfl rfl rfl fun a hk => ?_
  refine (c_end (x_t ?_))
  refine wpIn_seq ?_
  refine wpIn_seq ?_
  refine wpIn_region_lit ?_
  refine q_val hk (w_mv rfl) rfl rfl rfl fun a hk => ?_
  refine q_val hk (w_eq rfl rfl (decide_eq_false (by omega))) rfl rfl rfl fun a hk => ?_
  refine (c_end (x_t ?_))
  refine c_F hk rfl ?_
  refine (wpIn_skip (x_t ?_))
  refine wpIn_seq ?_
  refine wpIn_seq ?_
  refine wpIn_region_lit ?_
  refine q_val hk (w_mv rfl) rfl rfl rfl fun a hk => ?_
  refine q_val hk (w_lt rfl rfl (decide_eq_false (by omega))) rfl rfl rfl fun a hk => ?_
  refine (c_end (x_t ?_))
  refine c_F hk rfl ?_
  refine (wpIn_skip (x_t ?_))
  refine wpIn_seq ?_
  refine wpIn_region_lit ?_
  refine q_val hk (w_mv rfl) rfl rfl rfl fun a hk => ?_
  refine q_val hk (w_len rfl Tryd.underlying53) rfl rfl rfl fun a hk => ?_
  refine q_val hk (w_conv rfl Tryd.underlying3 Tryd.underlying95 (wru64 (by omega) (by omega))) rfl rfl rfl fun a hk => ?_
  refine q_val hk (w_mv rfl) rfl rfl rfl fun a hk => ?_
  refine q_val hk (w_conv rfl Tryd.underlying3 Tryd.underlying95 (wru64 (by omega) (by omega))) rfl rfl rfl fun a hk => ?_
  refine q_call (caps := []) hk rfl rfl Tryd.func66 fo66 rfl rfl (mul1_c n (by omega) _) ?_
  rintro _ _ ⟨rfl, rfl⟩
  refine ⟨_, rfl, fun a hk => ?_⟩
  refine q_val hk (w_mv rfl) rfl rfl rfl fun a hk => ?_
  refine q_val hk (w_ext rfl rfl) rfl rfl rfl fun a hk => ?_
  refine q_val hk (w_ext rfl rfl) rfl rfl rfl fun a hk => ?_
  refine q_val hk (w_as rfl) rfl rfl rfl fun a hk => ?_
  refine q_val hk (w_as rfl) rfl rfl rfl fun a hk => ?_
  refine (c_end (x_t ?_))
  refine wpIn_seq ?_
  refine wpIn_seq ?_
  refine wpIn_region_lit ?_
  refine q_val hk (w_mv rfl) rfl rfl rfl fun a hk => ?_
  refine q_val hk (w_gt rfl rfl (decide_eq_false (by decide))) rfl rfl rfl fun a hk => ?_
  refine q_val hk (w_mv rfl) rfl rfl rfl fun a hk => ?_
  refine q_val hk (w_mv rfl) rfl rfl rfl fun a hk => ?_
  refine q_val hk (w_gt rfl rfl (decide_eq_false (by omega))) rfl rfl rfl fun a hk => ?_
  refine q_val hk (w_pickF rfl rfl) rfl rfl rfl fun a hk => ?_
  refine (c_end (x_t ?_))
  refine c_F hk rfl ?_
  refine (wpIn_skip (x_t ?_))
  refine wpIn_seq ?_
  refine wpIn_region_lit ?_
  refine q_val hk (w_mv rfl) rfl rfl rfl fun a hk => ?_
  refine q_val hk (w_conv rfl Tryd.underlying95 Tryd.underlying3 (wr64 (by omega) (by omega))) rfl rfl rfl fun a hk => ?_
  refine q_val hk (w_as rfl) rfl rfl rfl fun a hk => ?_
  refine (c_end (x_t ?_))
  refine wpIn_seq ?_
  refine wpIn_seq ?_
  refine wpIn_region_lit ?_
  refine q_val hk (w_mv rfl) rfl rfl rfl fun a hk => ?_
  refine q_val hk (w_len rfl Tryd.underlying53) rfl rfl rfl fun a hk => ?_
  refine q_val hk (w_eq rfl rfl (decide_eq_false (by decide))) rfl rfl rfl fun a hk => ?_
  refine (c_end (x_t ?_))
  refine c_F hk rfl ?_
  refine (wpIn_skip (x_t ?_))
  refine wpIn_seq ?_
  refine wpIn_region_lit ?_
  refine q_val hk (w_mv rfl) rfl rfl rfl fun a hk => ?_
  refine q_val hk (w_as rfl) rfl rfl rfl fun a hk => ?_
  refine (c_end (x_t ?_))
  refine wpIn_seq ?_
  refine wpIn_seq ?_
  refine wpIn_region_lit ?_
  refine q_val hk (w_mv rfl) rfl rfl rfl fun a hk => ?_
  refine q_val hk (w_gt rfl rfl (decide_eq_true (by omega))) rfl rfl rfl fun a hk => ?_
  refine (c_end (x_t ?_))
  refine c_T hk rfl ?_
  refine wpIn_seq ?_
  refine wpIn_region_lit ?_
  refine q_val hk (w_mv rfl) rfl rfl rfl fun a hk => ?_
  refine q_val hk (w_len rfl Tryd.underlying53) rfl rfl rfl fun a hk => ?_
  refine q_val hk (w_quo rfl rfl (by omega) (wdv64 (by omega) (by omega) (by omega))) rfl rfl rfl fun a hk => ?_
  refine q_val hk (w_mv rfl) rfl rfl rfl fun a hk => ?_
  refine q_val hk (w_len rfl Tryd.underlying53) rfl rfl rfl fun a hk => ?_
  refine q_val hk (w_mul rfl rfl (wr64 (by omega) (by omega))) rfl rfl rfl fun a hk => ?_
  refine q_val hk (w_as rfl) rfl rfl rfl fun a hk => ?_
  refine (c_end (x_t ?_))
  refine wpIn_seq ?_
  refine wpIn_region_lit ?_
  refine q_val hk (w_mv rfl) rfl rfl rfl fun a hk => ?_
  refine q_val hk (w_eq rfl rfl (decide_eq_false (by omega))) rfl rfl rfl fun a hk => ?_
  refine (c_end (x_t ?_))
  refine c_F hk rfl ?_
  refine (wpIn_skip (x_t ?_))
  refine wpIn_seq ?_
  refine wpIn_region_lit ?_
  refine q_val hk (w_mv rfl) rfl rfl rfl fun a hk => ?_
  obtain ⟨b1, l0, c1, w', hr, hl0, hc1, hlt0, hs⟩ := mnz_sat hs n (by omega)
  refine q_val hk (w_extern rfl rfl hr) rfl rfl rfl fun a hk => ?_
  refine q_val hk (w_mv rfl) rfl rfl rfl fun a hk => ?_
  refine q_val hk (w_mv rfl) rfl rfl rfl fun a hk => ?_
  refine q_val hk (w_slc3 (l := 0) (h := n) (m := n) rfl rfl rfl rfl Tryd.underlying53 ty5 rfl rfl rfl (by omega) (by omega) (by omega) (by omega) (by omega) (by omega)) rfl rfl rfl fun a hk => ?_
  refine q_val hk (w_as rfl) rfl rfl rfl fun a hk => ?_
  rw [sla0, Nat.sub_zero] at hk
  refine (c_end (x_t ?_))
  refine wpIn_seq ?_
  refine wpIn_region_lit ?_
  refine q_val hk (w_mv rfl) rfl rfl rfl fun a hk => ?_
  refine q_val hk (w_mv rfl) rfl rfl rfl fun a hk => ?_
  refine q_cpy (off := 0) (ls := [x]) hk hs rfl rfl Tryd.underlying53 ty5 (fun _ => rfl) (by omega) ((hs.ri 0 rfl)) rfl rfl fun w a hk hs => ?_
  refine q_val hk (w_as rfl) rfl rfl rfl fun a hk => ?_
  refine (c_end (x_t ?_))
  refine wpIn_seq ?_
  refine wpIn_block ?_
  refine c_loop (α := Nat) (fun k a w => ∃ (lb : List Nat), 1 ≤ k ∧ k ≤ n ∧ lb.length = c1 ∧ (∀ x ∈ lb, x < 256) ∧ Kn 77 [(10, .int .i64 ((k : Nat) : Int)), (9, .slice (some ⟨b1, 0, none⟩) n n), (8, .int .i64 ((8192 / 1) * 1)), (7, .int .i64 ((n : Nat) : Int)), (4, .slice none 0 0)] a ∧ Sat no W [blk b1 (el bc lb) 5] [lst 1 (.slice la 1 lc) 1 (el bc ([x]))] w) (fun k => n - k) (min 1 n) ?_ ?_
  · exact ⟨_, (by omega), (by omega), (by rw [cpyB_len (by simp only [List.length_take, List.length_drop, List.length_cons, List.length_nil]; omega)]; exact hl0), (cpyB_lt hlt0 (fun y hy => by rw [List.mem_singleton.1 (List.mem_of_mem_take hy)]; exact hx)), hk.k rfl (hk.k rfl (hk.k rfl (hk.k rfl (hk.k rfl hk.nil)))), hs⟩
  rintro k a w ⟨lb, hf0, hf1, hf2, hf3, hk, hs⟩
  refine wpIn_seq ?_
  refine wpIn_seq ?_
  refine wpIn_region_lit ?_
  refine q_val hk (w_mv rfl) rfl rfl rfl fun a hk => ?_
  refine q_val hk (w_mv rfl) rfl rfl rfl fun a hk => ?_
  rcases Classical.em (((k : Nat) : Int) < ((n : Nat) : Int)) with hc1 | hc1
  · skip
    have hlt : k < n := by omega
    refine q_val hk (w_lt rfl rfl (decide_eq_true hc1)) rfl rfl rfl fun a hk => ?_
    refine (c_end (x_t ?_))
    refine c_T hk rfl ?_
    refine (wpIn_skip (x_t ?_))
    refine wpIn_block ?_
    refine wpIn_seq ?_
    refine wpIn_region_lit ?_
    refine q_val hk (w_mv rfl) rfl rfl rfl fun a hk => ?_
    refine q_val hk (w_mv rfl) rfl rfl rfl fun a hk => ?_
    refine q_val hk (w_min rfl rfl rfl) rfl rfl rfl fun a hk => ?_
    refine q_val hk (w_as rfl) rfl rfl rfl fun a hk => ?_
    refine (c_end (x_t ?_))
    refine d_begin _ 10 (by kernel_rfl) rfl hs okL.nil fun w hs hL => ?_
    refine d_v 0 1 hk hL rfl (by kernel_rfl) rfl rfl (fun w hL => w_mv rfl) fun a hk => ?_
    refine d_v 1 3 hk hL rfl (by kernel_rfl) rfl rfl (fun w hL => w_mv rfl) fun a hk => ?_
    refine d_v 2 7 hk hL rfl (by kernel_rfl) rfl rfl (fun w hL => w_mv rfl) fun a hk => ?_
    refine d_v 3 15 hk hL rfl (by kernel_rfl) rfl rfl (fun w hL => w_slc (l := k) (h := n) rfl rfl rfl Tryd.underlying53 ty5 rfl rfl (by omega) (by omega) (by omega) (by omega) (by omega)) fun a hk => ?_
    refine d_v 4 31 hk hL rfl (by kernel_rfl) rfl rfl (fun w hL => w_mv rfl) fun a hk => ?_
    refine d_v 5 63 hk hL rfl (by kernel_rfl) rfl rfl (fun w hL => w_mv rfl) fun a hk => ?_
    refine d_v 6 127 hk hL rfl (by kernel_rfl) rfl rfl (fun w hL => w_slc (l := 0) (h := (min k 8192)) rfl rfl rfl Tryd.underlying53 ty5 rfl rfl (by omega) (by omega) (by omega) (by omega) (by omega)) fun a hk => ?_
    refine d_1 7 255 rfl (by kernel_rfl) fun K hK => ?_
    refine q_cpy (off := k) (ls := ((lb.take n).drop 0).take (min k 8192 - 0)) hk hs rfl rfl Tryd.underlying53 ty5 (fun _ => sla_at (by omega)) (by omega) (subB (l := 0) (h := min k 8192) (m := n) (blkB_lst (n := n) (cc := n) (hs.mi 0 rfl) (by omega) (Nat.le_refl _)) (by omega) (by omega) (by omega) (by omega)) rfl rfl fun w a hk hs => ?_
    have hL : okL [] w := okL.nil
    refine c_end (x_t (hK _ _ hL ?_))
    clear hK K
    refine d_v 8 511 hk hL rfl (by kernel_rfl) rfl rfl (fun w hL => w_add rfl rfl (wr64 (by omega) (by omega))) fun a hk => ?_
    refine d_v 9 1023 hk hL rfl (by kernel_rfl) rfl rfl (fun w hL => w_as rfl) fun a hk => ?_
    refine d_end (by kernel_rfl) ?_
    refine (x_b (x_t ?_))
    have hlen2 : (cpyB lb k ((((lb.take n).drop 0).take (min k 8192 - 0)).take (min (min k 8192 - 0) (n - k)))).length = c1 := by rw [cpyB_len (by simp only [List.length_take, List.length_drop, List.length_cons, List.length_nil]; omega)]; exact hf2
    exact ⟨k + min (min k 8192 - 0) (n - k), ⟨_, (by omega), (by omega), hlen2, (cpyB_lt hf3 (fun y hy => hf3 y (List.mem_of_mem_take (List.mem_of_mem_drop (List.mem_of_mem_take (List.mem_of_mem_take hy)))))), hk.k rfl (hk.k rfl (hk.k rfl (hk.k rfl (hk.k rfl hk.nil)))), hs⟩, by omega⟩
  · skip
    skip
    refine q_val hk (w_lt rfl rfl (decide_eq_false hc1)) rfl rfl rfl fun a hk => ?_
    refine (c_end (x_t ?_))
    refine c_F hk rfl ?_
    refine (wpIn_exit (x_te (x_te (x_be ?_))))
    refine (x_t ?_)
    refine wpIn_seq ?_
    refine wpIn_region_lit ?_
    refine q_val hk (w_mv rfl) rfl rfl rfl fun a hk => ?_
    refine q_val hk (w_as rfl) rfl rfl rfl fun a hk => ?_
    refine (c_end (x_t ?_))
    refine (wpIn_ret ?_)
    refine c_ret1 hk rfl rfl ?_
    exact ⟨b1, lb, c1, rfl, hs.fin, hf2, by omega, hf3⟩
end Go.Proofs.YtpggmebgndkpjaaDoor
