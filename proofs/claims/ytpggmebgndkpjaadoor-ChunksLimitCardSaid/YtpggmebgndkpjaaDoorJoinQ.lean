/- Join of the program and of the reference, in one form; ChunksJoin. -/
import Derived.Test.YtpggmebgndkpjaaDoorValues
import Derived.Test.YtpggmebgndkpjaaDoorAliveThirteen
import Derived.Test.YtpggmebgndkpjaaDoorSyn
namespace Go.Proofs.YtpggmebgndkpjaaDoor
set_option linter.all false
open Go Go.RowKit
open Classical in
/-- What Join says. -/
noncomputable def jErr (n : Nat) (N : Int) (v : Nat → Nat) : Int := if 0 ≤ N ∧ N ≤ 65535 then (if n = cn N then (if okC N.toNat v (List.range n) then 0 else 10) else 8) else 6
def jFlat (N : Nat) (v : Nat → Nat) (l : List Nat) : List Nat := l.flatMap fun i => (List.range (cz N i)).map (byt (v i))
/-- The bytes that Join hands back. -/
noncomputable def jBytes (n : Nat) (N : Int) (v : Nat → Nat) : List Nat := if jErr n N v = 0 then jFlat N.toNat v (List.range n) else []
theorem jBytes_lt (n : Nat) (N : Int) (v : Nat → Nat) : ∀ x ∈ jBytes n N v, x < 256 := by
  unfold jBytes
  split
  · intro x hx
    unfold jFlat at hx
    rw [List.mem_flatMap] at hx
    obtain ⟨i, _, hx⟩ := hx
    rw [List.mem_map] at hx
    obtain ⟨j, _, rfl⟩ := hx
    exact byt_lt _ _
  · intro x hx; cases hx
theorem byC_el (N : Nat) (v : Nat → Nat) (l : List Nat) : byC N v l = el bc (jFlat N v l) := by
  unfold byC jFlat el
  induction l with
  | nil => rfl
  | cons x l ih =>
    rw [List.flatMap_cons, List.flatMap_cons, List.flatMap_append, ih]
    congr 1
    unfold fl bc
    induction (List.range (cz N x)) with
    | nil => rfl
    | cons y m ihm => simp [ihm]
/-- How Join's answer lies. -/
def JQ (W : World) (n : Nat) (N : Int) (v : Nat → Nat) (e : Ending) (w : World) : Prop :=
  ∃ a k c, e = .returned (.tuple #[.slice a k c, .int .i64 (jErr n N v)]) ∧ Sat no W [row 5 1 (.slice a k c) k (el bc (jBytes n N v))] [] w
theorem JQ.bad {W w : World} {n : Nat} {N : Int} {v : Nat → Nat} {q : Int} (hb : Below W.heap.size W w) (h : jErr n N v = q) (hq : q ≠ 0) : JQ W n N v (.returned (.tuple #[.slice none 0 0, .int .i64 q])) w := by
  refine ⟨none, 0, 0, by rw [h], ?_⟩
  have hnil : jBytes n N v = [] := by unfold jBytes; rw [if_neg (by rw [h]; exact hq)]
  rw [hnil]
  exact ((Sat.start W [] (fun _ h => by cases h)).below hb).row0 _ _
open Classical in
theorem JQ.of {W w : World} {N : Nat} {v : Nat → Nat} {r : Value} (hb : Below W.heap.size W w) (hN : N ≤ 65535) (h : JO W.heap.size N v r w) : JQ W (cn N) N v (.returned r) w := by
  have e0 : jErr (cn N) N v = if okC N v (List.range (cn N)) then 0 else 10 := by
    unfold jErr
    rw [if_pos (by omega), if_pos rfl]
    simp
  rcases h with ⟨hok, out, k, rfl, ho⟩ | ⟨hok, rfl⟩
  · rw [if_pos hok] at e0
    obtain ⟨a, c, rfl⟩ := row_slice2 ho
    refine ⟨a, k, c, by rw [e0], ?_⟩
    have hj : jBytes (cn N) N v = jFlat N v (List.range (cn N)) := by unfold jBytes; rw [if_pos e0]; rfl
    rw [hj, ← byC_el]
    exact (Sat.start W [] (fun _ h => by cases h)).ofOwn hb ho
  · rw [if_neg hok] at e0
    exact JQ.bad hb e0 (by decide)
theorem joinQ (s : Bool) (la : Option Addr) (n lc : Nat) (N : Int) (v : Nat → Nat) (W : World) (HX : LstAt W 4 (.slice la n lc) n (en vq (fun i => RR s (v i)) n)) (Hv : ∀ i, i < n → v i < pr s) :
    Calls Tryd.prog 34 #[fieldV s, .slice la n lc, .int .i64 N] W (JQ W n N v) := by
  by_cases h1 : 0 ≤ N ∧ N ≤ 65535
  · obtain ⟨M, rfl⟩ : ∃ M : Nat, N = M := ⟨N.toNat, by omega⟩
    by_cases h2 : n = cn M
    · subst h2
      refine (join_walk s la M lc v (by omega) W (Lib.hid (vecs_of HX)) (Lib.hid Hv)).mono ?_
      rintro e w ⟨⟨r, rfl, h⟩, hb⟩
      exact .of hb (by omega) h
    · refine (join_ne s la n lc M (by omega) h2 W).mono ?_
      rintro e w ⟨rfl, hb⟩
      exact .bad hb (by unfold jErr; rw [if_pos h1, if_neg h2]) (by decide)
  · refine (join_big s la n lc N h1 W).mono ?_
    rintro e w ⟨rfl, hb⟩
    exact .bad hb (by unfold jErr; rw [if_neg h1]) (by decide)
theorem refJoin_lo (la : Option Addr) (n lc : Nat) (N : Int) (W : World) (hN : N < 0) : Calls Tryd.prog 37 [.slice la n lc, .int .i64 N].toArray W fun e w => e = .returned (.tuple #[.slice none 0 0, .int .i64 6]) ∧ Below W.heap.size W w := by
  refine c_enter (args := [.slice la n lc, .int .i64 N]) Tryd.func37 rfl rfl rfl fun a hk => ?_
  have hs := Sat.start W [] (fun _ h => by cases h)
  refine wpIn_seq ?_
  refine wpIn_region_lit ?_
  refine q_val hk (w_as rfl) rfl rfl rfl fun a hk => ?_
  refine q_val hk (w_as rfl) rfl rfl rfl fun a hk => ?_
  refine (c_end (x_t ?_))
  refine wpIn_seq ?_
  refine wpIn_region_lit ?_
  refine q_val hk (w_as rfl) rfl rfl rfl fun a hk => ?_
  refine (c_end (x_t ?_))
  refine wpIn_seq ?_
  refine wpIn_seq ?_
  refine wpIn_region_lit ?_
  refine q_val hk (w_mv rfl) rfl rfl rfl fun a hk => ?_
  refine q_val hk (w_lt rfl rfl (decide_eq_true (by omega))) rfl rfl rfl fun a hk => ?_
  refine q_val hk (w_mv rfl) rfl rfl rfl fun a hk => ?_
  refine q_skip hk rfl rfl fun a hk => ?_
  refine q_skip hk rfl rfl fun a hk => ?_
  refine q_val hk (w_pickT rfl rfl) rfl rfl rfl fun a hk => ?_
  refine (c_end (x_t ?_))
  refine c_T hk rfl ?_
  refine wpIn_seq ?_
  refine wpIn_region_lit ?_
  refine q_val hk (w_as rfl) rfl rfl rfl fun a hk => ?_
  refine q_val hk (w_as rfl) rfl rfl rfl fun a hk => ?_
  refine (c_end (x_t ?_))
  refine (wpIn_ret (x_tr ?_))
  refine c_ret2 hk rfl rfl rfl ?_
  exact ⟨rfl, hs.toBelow⟩
theorem refJoin_big (la : Option Addr) (n lc : Nat) (N : Int) (W : World) (hN : 65535 < N) : Calls Tryd.prog 37 [.slice la n lc, .int .i64 N].toArray W fun e w => e = .returned (.tuple #[.slice none 0 0, .int .i64 6]) ∧ Below W.heap.size W w := by
  refine c_enter (args := [.slice la n lc, .int .i64 N]) Tryd.func37 rfl rfl rfl fun a hk => ?_
  have hs := Sat.start W [] (fun _ h => by cases h)
  refine wpIn_seq ?_
  refine wpIn_region_lit ?_
  refine q_val hk (w_as rfl) rfl rfl rfl fun a hk => ?_
  refine q_val hk (w_as rfl) rfl rfl rfl fun a hk => ?_
  refine (c_end (x_t ?_))
  refine wpIn_seq ?_
  refine wpIn_region_lit ?_
  refine q_val hk (w_as rfl) rfl rfl rfl fun a hk => ?_
  refine (c_end (x_t ?_))
  refine wpIn_seq ?_
  refine wpIn_seq ?_
  refine wpIn_region_lit ?_
  refine q_val hk (w_mv rfl) rfl rfl rfl fun a hk => ?_
  refine q_val hk (w_lt rfl rfl (decide_eq_false (by omega))) rfl rfl rfl fun a hk => ?_
  refine q_val hk (w_mv rfl) rfl rfl rfl fun a hk => ?_
  refine q_val hk (w_mv rfl) rfl rfl rfl fun a hk => ?_
  refine q_val hk (w_gt rfl rfl (decide_eq_true (by omega))) rfl rfl rfl fun a hk => ?_
  refine q_val hk (w_pickF rfl rfl) rfl rfl rfl fun a hk => ?_
  refine (c_end (x_t ?_))
  refine c_T hk rfl ?_
  refine wpIn_seq ?_
  refine wpIn_region_lit ?_
  refine q_val hk (w_as rfl) rfl rfl rfl fun a hk => ?_
  refine q_val hk (w_as rfl) rfl rfl rfl fun a hk => ?_
  refine (c_end (x_t ?_))
  refine (wpIn_ret (x_tr ?_))
  refine c_ret2 hk rfl rfl rfl ?_
  exact ⟨rfl, hs.toBelow⟩
theorem refJoin_ne (la : Option Addr) (n lc : Nat) (N : Int) (W : World) (h0 : 0 ≤ N) (hN : N ≤ 65535) (hne : n ≠ cn N) : Calls Tryd.prog 37 [.slice la n lc, .int .i64 N].toArray W fun e w => e = .returned (.tuple #[.slice none 0 0, .int .i64 8]) ∧ Below W.heap.size W w := by
  refine c_enter (args := [.slice la n lc, .int .i64 N]) Tryd.func37 rfl rfl rfl fun a hk => ?_
  have hs := Sat.start W [] (fun _ h => by cases h)
  refine wpIn_seq ?_
  refine wpIn_region_lit ?_
  refine q_val hk (w_as rfl) rfl rfl rfl fun a hk => ?_
  refine q_val hk (w_as rfl) rfl rfl rfl fun a hk => ?_
  refine (c_end (x_t ?_))
  refine wpIn_seq ?_
  refine wpIn_region_lit ?_
  refine q_val hk (w_as rfl) rfl rfl rfl fun a hk => ?_
  refine (c_end (x_t ?_))
  refine wpIn_seq ?_
  refine wpIn_seq ?_
  refine wpIn_region_lit ?_
  refine q_val hk (w_mv rfl) rfl rfl rfl fun a hk => ?_
  refine q_val hk (w_lt rfl rfl (decide_eq_false (by omega))) rfl rfl rfl fun a hk => ?_
  refine q_val hk (w_mv rfl) rfl rfl rfl fun a hk => ?_
  refine q_val hk (w_mv rfl) rfl rfl rfl fun a hk => ?_
  refine q_val hk (w_gt rfl rfl (decide_eq_false (by omega))) rfl rfl rfl fun a hk => ?_
  refine q_val hk (w_pickF rfl rfl) rfl rfl rfl fun a hk => ?_
  refine (c_end (x_t ?_))
  refine c_F hk rfl ?_
  refine (wpIn_skip (x_t ?_))
  refine wpIn_seq ?_
  refine wpIn_seq ?_
  refine wpIn_region_lit ?_
  refine q_val hk (w_mv rfl) rfl rfl rfl fun a hk => ?_
  refine q_val hk (w_len rfl Tryd.underlying42) rfl rfl rfl fun a hk => ?_
  refine q_val hk (w_mv rfl) rfl rfl rfl fun a hk => ?_
  refine q_call (caps := []) hk rfl rfl Tryd.func31 fo31 rfl rfl (refCount_c N (by omega) _) ?_
  rintro _ _ ⟨rfl, rfl⟩
  refine ⟨_, rfl, fun a hk => ?_⟩
  refine q_val hk (w_ne rfl rfl (decide_eq_true (by omega))) rfl rfl rfl fun a hk => ?_
  refine (c_end (x_t ?_))
  refine c_T hk rfl ?_
  refine wpIn_seq ?_
  refine wpIn_region_lit ?_
  refine q_val hk (w_as rfl) rfl rfl rfl fun a hk => ?_
  refine q_val hk (w_as rfl) rfl rfl rfl fun a hk => ?_
  refine (c_end (x_t ?_))
  refine (wpIn_ret (x_tr ?_))
  refine c_ret2 hk rfl rfl rfl ?_
  exact ⟨rfl, hs.toBelow⟩
theorem refJoinQ (la : Option Addr) (n lc : Nat) (N : Int) (v : Nat → Nat) (W : World) (HV : LstAt W 4 (.slice la n lc) n (en vq v n)) :
    Calls Tryd.prog 37 #[.slice la n lc, .int .i64 N] W (JQ W n N v) := by
  by_cases h1 : 0 ≤ N ∧ N ≤ 65535
  · obtain ⟨M, rfl⟩ : ∃ M : Nat, N = M := ⟨N.toNat, by omega⟩
    by_cases h2 : n = cn M
    · subst h2
      refine (refJoin_walk la M lc v (by omega) W (Lib.hid (vecs_of HV))).mono ?_
      rintro e w ⟨⟨r, rfl, h⟩, hb⟩
      exact .of hb (by omega) h
    · refine (refJoin_ne la n lc M W h1.1 h1.2 h2).mono ?_
      rintro e w ⟨rfl, hb⟩
      exact .bad hb (by unfold jErr; rw [if_pos h1, if_neg h2]) (by decide)
  · have h3 : N < 0 ∨ 65535 < N := by omega
    rcases h3 with h3 | h3
    · refine (refJoin_lo la n lc N W h3).mono ?_
      rintro e w ⟨rfl, hb⟩
      exact .bad hb (by unfold jErr; rw [if_neg h1]) (by decide)
    · refine (refJoin_big la n lc N W h3).mono ?_
      rintro e w ⟨rfl, hb⟩
      exact .bad hb (by unfold jErr; rw [if_neg h1]) (by decide)
theorem bytesIn_of {w : World} {a : Option Addr} {n c : Nat} {l : List Nat} (h : LstAt w 1 (.slice a n c) n (el bc l)) : Lib.BytesIn w a n (l.map fun x : Nat => (x : Int)) := by
  intro hn
  have ha := lst_some h hn
  obtain ⟨a', c', he, _, _, hx⟩ := h.at_
  cases he
  obtain ⟨h1, h2, h3⟩ := hx _ ha hn
  refine ⟨(adq a).block, (adq a).off, by rw [ha, ← h1]; rfl, fun i hi => ?_⟩
  have hl : l.length = n := by have := h.len; rw [el_len bc_len] at this; omega
  have := h3 i (.int .u8 ((l.map fun x : Nat => (x : Int)).getD i 0)) (by
    have hh := el_chunk (c := bc) bc_len (l := l) (k := i) (by omega) 0
    rw [Nat.mul_one] at hh
    have h4 := congrArg (fun q => q[0]?) hh
    simp only [List.getElem?_take, List.getElem?_drop] at h4
    simp only [bc, Nat.add_zero, show (0 < 1) = True by simp, if_true] at h4
    rw [h4]
    simp [List.getD, hl, hi])
  have e : adq a = ⟨(adq a).block, (adq a).off, none⟩ := by rw [← h1]
  rw [e, add_pos] at this
  exact this
theorem bytesEqQ (w : World) (a b : Option Addr) (n c m d : Nat) (l l' : List Nat) (h1 : LstAt w 1 (.slice a n c) n (el bc l)) (h2 : LstAt w 1 (.slice b m d) m (el bc l')) (h : l = l') :
    Calls Tryd.prog 38 #[.slice a n c, .slice b m d] w fun e w' => e = .returned (.bool true) ∧ w = w' := by
  subst h
  have e1 := h1.len
  have e2 := h2.len
  rw [el_len bc_len] at e1 e2
  refine (Tryd.bytes_Equal_all a b n c m d _ _ w (by simp; omega) (by simp; omega) (bytesIn_of h1) (bytesIn_of h2)).mono ?_
  rintro e w' ⟨rfl, rfl⟩
  exact ⟨by simp, rfl⟩
theorem lawJoin_q (s : Bool) (la : Option Addr) (n lc : Nat) (N : Int) (A : Nat → Nat) (W : World) (HA : LstAt W 4 (.slice la n lc) n (en vq A n)) (H4 : ∀ i, i < n → A i < R4) (HL : Laid W) : Calls Tryd.prog 9 [.bool s, .slice la n lc, .int .i64 N].toArray W fun e w => e = .returned (.bool true) ∧ Below W.heap.size W w := by
  refine c_enter (args := [.bool s, .slice la n lc, .int .i64 N]) Tryd.func9 rfl rfl rfl fun a hk => ?_
  have hs := Sat.start W [lst 4 (.slice la n lc) n (en vq A n)] (fun r hr => by rcases List.mem_singleton.1 hr with rfl; exact HA)
  refine wpIn_seq ?_
  refine wpIn_region_lit ?_
  refine q_val hk (w_as rfl) rfl rfl rfl fun a hk => ?_
  refine (c_end (x_t ?_))
  refine wpIn_seq ?_
  refine wpIn_seq ?_
  refine wpIn_region_lit ?_
  refine q_val hk (w_mv rfl) rfl rfl rfl fun a hk => ?_
  refine q_val hk (w_len rfl Tryd.underlying42) rfl rfl rfl fun a hk => ?_
  rcases Classical.em (40 < ((n : Nat) : Int)) with hc1 | hc1
  · skip
    refine q_val hk (w_gt rfl rfl (decide_eq_true hc1)) rfl rfl rfl fun a hk => ?_
    refine (c_end (x_t ?_))
    refine c_T hk rfl ?_
    refine wpIn_seq ?_
    refine wpIn_region_lit ?_
    refine q_call (caps := []) hk rfl rfl Tryd.func29 fo29 rfl rfl (alive13_c _ (HL.step hs.toBelow)) ?_
    rintro _ w ⟨rfl, hb⟩
    have hs := hs.below hb
    refine ⟨_, rfl, fun a hk => ?_⟩
    refine q_val hk (w_as rfl) rfl rfl rfl fun a hk => ?_
    refine (c_end (x_t ?_))
    refine (wpIn_ret (x_tr ?_))
    refine c_ret1 hk rfl rfl ?_
    exact ⟨rfl, hs.toBelow⟩
  · skip
    refine q_val hk (w_gt rfl rfl (decide_eq_false hc1)) rfl rfl rfl fun a hk => ?_
    refine (c_end (x_t ?_))
    refine c_F hk rfl ?_
    refine (wpIn_skip (x_t ?_))
    refine wpIn_seq ?_
    refine wpIn_region_lit ?_
    refine q_val hk (w_mv rfl) rfl rfl rfl fun a hk => ?_
    refine q_call (caps := []) hk rfl rfl Tryd.func32 fo32 rfl rfl (get13_c s _ (HL.step hs.toBelow)) ?_
    rintro _ w ⟨rfl, hb⟩
    have hs := hs.below hb
    refine ⟨_, rfl, fun a hk => ?_⟩
    refine q_val hk (w_mv rfl) rfl rfl rfl fun a hk => ?_
    refine q_val hk (w_ext rfl rfl) rfl rfl rfl fun a hk => ?_
    refine q_val hk (w_ext rfl rfl) rfl rfl rfl fun a hk => ?_
    refine q_alc (vs := [.int .i64 0, .int .u64 0, .int .u64 0, .int .u64 0, .int .u64 0, .int .u64 0, .int .u64 0, .int .u64 0, .int .u64 0, .int .u64 0, .int .u64 0, .int .u64 0, .int .u64 0, .int .u64 0]) hk hs zr47 rfl rfl rfl fun b2 w a hk hs => ?_
    refine q_alc (vs := [.int .u64 0, .int .u64 0, .int .u64 0, .int .u64 0]) hk hs zr44 rfl rfl rfl fun b3 w a hk hs => ?_
    have hs := hs.up1
    refine q_sto (o := 0) (cs := fieldL s) (vs' := fieldL s) hk hs rfl rfl rfl ty47 rfl rfl rfl rfl rfl rfl fun w hs => ?_
    have hs := hs.up1
    refine q_sto (o := 0) (cs := [.int .u64 ((dg 0 (pr s) : Nat) : Int), .int .u64 ((dg 1 (pr s) : Nat) : Int), .int .u64 ((dg 2 (pr s) : Nat) : Int), .int .u64 ((dg 3 (pr s) : Nat) : Int)]) (vs' := [.int .u64 ((dg 0 (pr s) : Nat) : Int), .int .u64 ((dg 1 (pr s) : Nat) : Int), .int .u64 ((dg 2 (pr s) : Nat) : Int), .int .u64 ((dg 3 (pr s) : Nat) : Int)]) hk hs rfl rfl rfl ty44 rfl rfl rfl rfl rfl rfl fun w hs => ?_
    refine (c_end (x_t ?_))
    refine wpIn_seq ?_
    refine wpIn_region_lit ?_
    refine q_val hk (w_ldv (z := pr s) rfl ty44 (.blk (n := 4) (hs.mi 0 rfl) rfl)) rfl rfl rfl fun a hk => ?_
    refine q_val hk (w_mv rfl) rfl rfl rfl fun a hk => ?_
    refine q_call (caps := []) hk rfl rfl Tryd.func33 fo33 rfl rfl (values_q s la n lc A _ (hs.ri 0 rfl) (by omega) H4) ?_
    rintro _ w ⟨a4, c5, a6, c7, rfl, hS⟩
    have hs := hs.call2 hS
    clear hS
    refine ⟨_, rfl, fun a hk => ?_⟩
    refine q_val hk (w_mv rfl) rfl rfl rfl fun a hk => ?_
    refine q_val hk (w_ext rfl rfl) rfl rfl rfl fun a hk => ?_
    refine q_val hk (w_ext rfl rfl) rfl rfl rfl fun a hk => ?_
    refine q_val hk (w_as rfl) rfl rfl rfl fun a hk => ?_
    refine q_val hk (w_as rfl) rfl rfl rfl fun a hk => ?_
    refine (c_end (x_t ?_))
    refine wpIn_seq ?_
    refine wpIn_region_lit ?_
    refine q_val hk (w_ldA rfl ty47 (.blk (n := 14) (hs.mi 3 rfl) rfl) rfl) rfl rfl rfl fun a hk => ?_
    refine q_val hk (w_mv rfl) rfl rfl rfl fun a hk => ?_
    refine q_val hk (w_mv rfl) rfl rfl rfl fun a hk => ?_
    refine q_call (caps := []) hk rfl rfl Tryd.func34 fo34 rfl rfl (joinQ s _ n _ N (fun i => mulm (pr s) 1 (A i)) _ (row_lst (hs.mi 1 rfl)) (fun i _ => red_lt s _)) ?_
    rintro _ w ⟨a8, k9, c10, rfl, hS⟩
    have hs := hs.call1 hS
    clear hS
    refine ⟨_, rfl, fun a hk => ?_⟩
    refine q_val hk (w_mv rfl) rfl rfl rfl fun a hk => ?_
    refine q_val hk (w_ext rfl rfl) rfl rfl rfl fun a hk => ?_
    refine q_val hk (w_ext rfl rfl) rfl rfl rfl fun a hk => ?_
    refine q_val hk (w_as rfl) rfl rfl rfl fun a hk => ?_
    refine q_val hk (w_as rfl) rfl rfl rfl fun a hk => ?_
    refine (c_end (x_t ?_))
    refine wpIn_seq ?_
    refine wpIn_region_lit ?_
    refine q_val hk (w_mv rfl) rfl rfl rfl fun a hk => ?_
    refine q_val hk (w_mv rfl) rfl rfl rfl fun a hk => ?_
    refine q_call (caps := []) hk rfl rfl Tryd.func37 fo37 rfl rfl (refJoinQ _ n _ N (fun i => mulm (pr s) 1 (A i)) _ (row_lst (hs.mi 1 rfl))) ?_
    rintro _ w ⟨a11, k12, c13, rfl, hS⟩
    have hs := hs.call1 hS
    clear hS
    refine ⟨_, rfl, fun a hk => ?_⟩
    refine q_val hk (w_mv rfl) rfl rfl rfl fun a hk => ?_
    refine q_val hk (w_ext rfl rfl) rfl rfl rfl fun a hk => ?_
    refine q_val hk (w_ext rfl rfl) rfl rfl rfl fun a hk => ?_
    refine q_val hk (w_as rfl) rfl rfl rfl fun a hk => ?_
    refine q_val hk (w_as rfl) rfl rfl rfl fun a hk => ?_
    refine (c_end (x_t ?_))
    refine wpIn_seq ?_
    refine wpIn_region_lit ?_
    refine q_call (caps := []) hk rfl rfl Tryd.func29 fo29 rfl rfl (alive13_c _ (HL.step hs.toBelow)) ?_
    rintro _ w ⟨rfl, hb⟩
    have hs := hs.below hb
    refine ⟨_, rfl, fun a hk => ?_⟩
    refine q_val hk (w_mv rfl) rfl rfl rfl fun a hk => ?_
    refine q_val hk (w_mv rfl) rfl rfl rfl fun a hk => ?_
    refine q_val hk (w_mv rfl) rfl rfl rfl fun a hk => ?_
    refine q_call (caps := []) hk rfl rfl Tryd.func38 fo38 rfl rfl (bytesEqQ _ _ _ _ _ _ _ _ _ (row_lst (hs.mi 1 rfl)) (row_lst (hs.mi 0 rfl)) rfl) ?_
    rintro _ _ ⟨rfl, rfl⟩
    refine ⟨_, rfl, fun a hk => ?_⟩
    refine q_val hk (w_pickT rfl rfl) rfl rfl rfl fun a hk => ?_
    refine q_val hk (w_mv rfl) rfl rfl rfl fun a hk => ?_
    refine q_val hk (w_mv rfl) rfl rfl rfl fun a hk => ?_
    refine q_val hk (w_mv rfl) rfl rfl rfl fun a hk => ?_
    refine q_val hk (w_eq rfl rfl (decide_eq_true rfl)) rfl rfl rfl fun a hk => ?_
    refine q_val hk (w_pickT rfl rfl) rfl rfl rfl fun a hk => ?_
    refine q_val hk (w_as rfl) rfl rfl rfl fun a hk => ?_
    refine (c_end (x_t ?_))
    refine (wpIn_ret ?_)
    refine c_ret1 hk rfl rfl ?_
    exact ⟨rfl, hs.toBelow⟩
end Go.Proofs.YtpggmebgndkpjaaDoor
