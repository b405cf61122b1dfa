/- ChunksAreCanonical. -/
import Derived.Test.YtpggmebgndkpjaaDoorJoinQ
namespace Go.Proofs.YtpggmebgndkpjaaDoor
set_option linter.all false
open Go Go.RowKit
theorem sliceOf {w : World} {a : Option Addr} {n c : Nat} {l : List Nat} (h : LstAt w 1 (.slice a n c) n (el bc l)) (hl : ∀ x ∈ l, x < 256) : SliceAt w a n (fun j => l.getD j 0) := by
  have hB := bytesIn_of h
  have hlt : ∀ j, l.getD j 0 < 256 := fun j => by
    by_cases hj : j < l.length
    · have : l.getD j 0 = l[j] := by simp [List.getD, hj]
      rw [this]; exact hl _ (List.getElem_mem hj)
    · have : l.getD j 0 = 0 := by simp [List.getD, List.getElem?_eq_none (Nat.le_of_not_lt hj)]
      rw [this]; decide
  refine ⟨hlt, ?_⟩
  rcases Nat.eq_zero_or_pos n with h0 | h0
  · exact .inl h0
  · obtain ⟨b, o, e, hc⟩ := hB.at h0
    refine .inr ⟨b, o, e, hlt, World.block_lt_of_cell? w _ (hc 0 h0), fun j hj => ?_⟩
    rw [hc j hj]
    have : (l.map fun x : Nat => (x : Int)).getD j 0 = ((l.getD j 0 : Nat) : Int) := by
      have hlen := h.len
      rw [el_len bc_len] at hlen
      simp [List.getD, show j < l.length by omega]
    rw [this]
theorem splitQ (s : Bool) (la : Option Addr) (n lc : Nat) (l : List Nat) (W : World) (hl : ∀ x ∈ l, x < 256) (hn : n ≤ 65535) (HB : LstAt W 1 (.slice la n lc) n (el bc l)) :
    Calls Tryd.prog 35 #[fieldV s, .slice la n lc] W fun e w => ∃ a c, e = .returned (.tuple #[.slice a (cn n) c, .int .i64 0]) ∧ Sat no W [row 45 4 (.slice a (cn n) c) (cn n) (en vq (fun i => RR s (cv n (fun j => l.getD j 0) i)) (cn n))] [] w := by
  have hc : n ≤ lc := by obtain ⟨a', c', e, h, _⟩ := HB.at_; cases e; exact h
  refine (split_ok s la n lc (fun j => l.getD j 0) hn hc W (sliceOf HB hl)).mono ?_
  rintro e w ⟨⟨v, rfl, ho⟩, hb⟩
  obtain ⟨a, c, rfl⟩ := row_slice2 ho
  refine ⟨a, c, rfl, ?_⟩
  have := (Sat.start W [] (fun _ h => by cases h)).ofOwn hb ho
  rw [vcs_en] at this
  rw [en_congr (g := ck s n fun j => l.getD j 0) fun i _ => (ck_cv s (sliceOf HB hl).lt i).symm]
  exact this
/-! What Join hands back, byte by byte. -/
theorem cz_full {N i : Nat} (hN : N ≤ 65535) (h : i + 1 < cn N) : cz N i = 31 := by
  have := cn_lo hN h
  unfold cz; omega
theorem jFlat_succ (N : Nat) (v : Nat → Nat) (m : Nat) : jFlat N v (List.range (m + 1)) = jFlat N v (List.range m) ++ (List.range (cz N m)).map (byt (v m)) := by simp [jFlat, List.range_succ]
theorem jFlat_len {N : Nat} (hN : N ≤ 65535) (v : Nat → Nat) : ∀ m, m ≤ cn N → (jFlat N v (List.range m)).length = min (31 * m) N
  | 0, _ => by simp [jFlat]
  | m + 1, h => by
    have h1 := cn_lo hN (show m < cn N by omega)
    rw [jFlat_succ, List.length_append, jFlat_len hN v m (by omega), List.length_map, List.length_range]
    unfold cz; omega
theorem cn_all {N : Nat} (hN : N ≤ 65535) : N ≤ 31 * cn N := by unfold cn; rw [if_pos (by omega)]; omega
theorem jFlat_get {N : Nat} (hN : N ≤ 65535) (v : Nat → Nat) : ∀ m, m ≤ cn N → ∀ i j, i < m → j < cz N i → (jFlat N v (List.range m)).getD (31 * i + j) 0 = byt (v i) j
  | 0, _, i, j, hi, _ => by omega
  | m + 1, h, i, j, hi, hj => by
    have h1 := cn_lo hN (show m < cn N by omega)
    have hlen := jFlat_len hN v m (by omega)
    rw [jFlat_succ]
    have hj31 : j < 31 := by unfold cz at hj; omega
    by_cases him : i < m
    · have ih := jFlat_get hN v m (by omega) i j him hj
      rw [← ih]
      simp only [List.getD]
      rw [List.getElem?_append_left (by omega)]
    · obtain rfl : i = m := by omega
      simp only [List.getD]
      rw [List.getElem?_append_right (by omega), hlen, show 31 * i + j - min (31 * i) N = j by omega]
      simp [hj]
theorem cv_back {N : Nat} (hN : N ≤ 65535) {v : Nat → Nat} (hv : ∀ i, i < cn N → v i < R4) (hok : okC N v (List.range (cn N))) (i : Nat) (hi : i < cn N) : cv N (fun j => (jFlat N v (List.range (cn N))).getD j 0) i = v i := by
  unfold cv
  rw [le_congr (g := byt (v i)) _ (fun j hj => jFlat_get hN v (cn N) (Nat.le_refl _) i j hi hj)]
  have h1 := le_zero (f := byt (v i)) (cz N i) 32 (fun j h1 h2 => hok i (List.mem_range.2 hi) j h1 h2) (by unfold cz; omega)
  rw [← h1, le_byt, Nat.mod_eq_of_lt]
  exact hv i hi
theorem jErr_zero {n : Nat} {N : Int} {v : Nat → Nat} (h : jErr n N v = 0) : 0 ≤ N ∧ N ≤ 65535 ∧ n = cn N ∧ okC N.toNat v (List.range n) := by
  unfold jErr at h
  split at h
  · rename_i h1
    split at h
    · rename_i h2
      split at h
      · rename_i h3; exact ⟨h1.1, h1.2, h2, h3⟩
      · omega
    · omega
  · omega
theorem jBytes_len {n : Nat} {N : Int} {v : Nat → Nat} (h : jErr n N v = 0) : ((jBytes n N v).length : Int) = N := by
  obtain ⟨h0, h1, h2, _⟩ := jErr_zero h
  unfold jBytes
  rw [if_pos h]
  obtain ⟨M, rfl⟩ : ∃ M : Nat, N = M := ⟨N.toNat, by omega⟩
  subst h2
  have h3 := jFlat_len (N := M) (by omega) v (cn (M : Int)) (Nat.le_refl _)
  have h4 := cn_all (N := M) (by omega)
  simp only [Int.toNat_natCast]
  rw [h3]
  omega
theorem jBytes_err {n : Nat} {N : Int} {v : Nat → Nat} (h : jErr n N v ≠ 0) : (jBytes n N v).length = 0 := by unfold jBytes; rw [if_neg h]; rfl
theorem row_count {w : World} {T : TypeId} {v : Value} {k : Nat} {l : List Nat} (h : (row T 1 v k (el bc l)).ok w) : k = l.length := by
  have := row_len h
  rw [el_len bc_len] at this
  omega
theorem sameQ (s : Bool) (a b : Option Addr) (n c m d : Nat) (X V : Nat → Nat) (hnm : n = m) (hn : n ≤ 70000) (w : World) (HX : LstAt w 4 (.slice a n c) n (en vq X n)) (HV : LstAt w 4 (.slice b m d) m (en vq V m)) (HE : ∀ i, i < n → V i < R4 ∧ X i = RR s (V i)) :
    Calls Tryd.prog 36 #[vec (pr s), .slice a n c, .slice b m d] w fun e w' => e = .returned (.bool true) ∧ Below w.heap.size w w' := by
  subst hnm
  exact same_c s a b n c d X V hn w (Lib.hid (vecs_of HX)) (Lib.hid (vecs_of HV)) (Lib.hid HE) (Lib.hid fun x w hx => refForm_s s x w hx)
theorem canon_eq (s : Bool) (A : Nat → Nat) {n k : Nat} {N : Int} (h : jErr n N (fun i => mulm (pr s) 1 (A i)) = 0) (hk : (k : Int) = N) : ∀ i, i < cn ((k : Nat) : Int) → mulm (pr s) 1 (A i) < R4 ∧ RR s (cv k (fun j => (jBytes n N (fun i => mulm (pr s) 1 (A i))).getD j 0) i) = RR s (mulm (pr s) 1 (A i)) := by
  intro i hi
  refine ⟨Nat.lt_trans (red_lt s _) (pr_lt s), ?_⟩
  obtain ⟨h0, h1, h2, h3⟩ := jErr_zero h
  subst hk
  subst h2
  simp only [Int.toNat_natCast] at h3
  unfold jBytes
  rw [if_pos h]
  simp only [Int.toNat_natCast]
  rw [cv_back (N := k) (by omega) (v := fun i => mulm (pr s) 1 (A i)) (fun i _ => Nat.lt_trans (red_lt s _) (pr_lt s)) h3 i hi]
theorem lawCanon_q (s : Bool) (la : Option Addr) (n lc : Nat) (N : Int) (A : Nat → Nat) (W : World) (HA : LstAt W 4 (.slice la n lc) n (en vq A n)) (H4 : ∀ i, i < n → A i < R4) (HL : Laid W) : Calls Tryd.prog 8 [.bool s, .slice la n lc, .int .i64 N].toArray W fun e w => e = .returned (.bool true) ∧ Below W.heap.size W w := by
  refine c_enter (args := [.bool s, .slice la n lc, .int .i64 N]) Tryd.func8 rfl rfl rfl fun a hk => ?_
  have hs := Sat.start W [lst 4 (.slice la n lc) n (en vq A n)] (fun r hr => by rcases List.mem_singleton.1 hr with rfl; exact HA)
  refine wpIn_seq ?_
  refine wpIn_region_lit ?_
  refine q_val hk (w_as rfl) rfl rfl rfl fun a hk => ?_
  refine (c_end (x_t ?_))
  refine wpIn_seq ?_
  refine wpIn_seq ?_
  refine wpIn_region_lit ?_
  refine q_val hk (w_mv rfl) rfl rfl rfl fun a hk => ?_
  refine q_val hk (w_len rfl Tryd.underlying42) rfl rfl rfl fun a hk => ?_
  rcases Classical.em (40 < ((n : Nat) : Int)) with hc1 | hc1
  · skip
    refine q_val hk (w_gt rfl rfl (decide_eq_true hc1)) rfl rfl rfl fun a hk => ?_
    refine (c_end (x_t ?_))
    refine c_T hk rfl ?_
    refine wpIn_seq ?_
    refine wpIn_region_lit ?_
    refine q_call (caps := []) hk rfl rfl Tryd.func29 fo29 rfl rfl (alive13_c _ (HL.step hs.toBelow)) ?_
    rintro _ w ⟨rfl, hb⟩
    have hs := hs.below hb
    refine ⟨_, rfl, fun a hk => ?_⟩
    refine q_val hk (w_as rfl) rfl rfl rfl fun a hk => ?_
    refine (c_end (x_t ?_))
    refine (wpIn_ret (x_tr ?_))
    refine c_ret1 hk rfl rfl ?_
    exact ⟨rfl, hs.toBelow⟩
  · skip
    refine q_val hk (w_gt rfl rfl (decide_eq_false hc1)) rfl rfl rfl fun a hk => ?_
    refine (c_end (x_t ?_))
    refine c_F hk rfl ?_
    refine (wpIn_skip (x_t ?_))
    refine wpIn_seq ?_
    refine wpIn_region_lit ?_
    refine q_val hk (w_mv rfl) rfl rfl rfl fun a hk => ?_
    refine q_call (caps := []) hk rfl rfl Tryd.func32 fo32 rfl rfl (get13_c s _ (HL.step hs.toBelow)) ?_
    rintro _ w ⟨rfl, hb⟩
    have hs := hs.below hb
    refine ⟨_, rfl, fun a hk => ?_⟩
    refine q_val hk (w_mv rfl) rfl rfl rfl fun a hk => ?_
    refine q_val hk (w_ext rfl rfl) rfl rfl rfl fun a hk => ?_
    refine q_val hk (w_ext rfl rfl) rfl rfl rfl fun a hk => ?_
    refine q_alc (vs := [.int .i64 0, .int .u64 0, .int .u64 0, .int .u64 0, .int .u64 0, .int .u64 0, .int .u64 0, .int .u64 0, .int .u64 0, .int .u64 0, .int .u64 0, .int .u64 0, .int .u64 0, .int .u64 0]) hk hs zr47 rfl rfl rfl fun b2 w a hk hs => ?_
    refine q_alc (vs := [.int .u64 0, .int .u64 0, .int .u64 0, .int .u64 0]) hk hs zr44 rfl rfl rfl fun b3 w a hk hs => ?_
    have hs := hs.up1
    refine q_sto (o := 0) (cs := fieldL s) (vs' := fieldL s) hk hs rfl rfl rfl ty47 rfl rfl rfl rfl rfl rfl fun w hs => ?_
    have hs := hs.up1
    refine q_sto (o := 0) (cs := [.int .u64 ((dg 0 (pr s) : Nat) : Int), .int .u64 ((dg 1 (pr s) : Nat) : Int), .int .u64 ((dg 2 (pr s) : Nat) : Int), .int .u64 ((dg 3 (pr s) : Nat) : Int)]) (vs' := [.int .u64 ((dg 0 (pr s) : Nat) : Int), .int .u64 ((dg 1 (pr s) : Nat) : Int), .int .u64 ((dg 2 (pr s) : Nat) : Int), .int .u64 ((dg 3 (pr s) : Nat) : Int)]) hk hs rfl rfl rfl ty44 rfl rfl rfl rfl rfl rfl fun w hs => ?_
    refine (c_end (x_t ?_))
    refine wpIn_seq ?_
    refine wpIn_region_lit ?_
    refine q_val hk (w_ldv (z := pr s) rfl ty44 (.blk (n := 4) (hs.mi 0 rfl) rfl)) rfl rfl rfl fun a hk => ?_
    refine q_val hk (w_mv rfl) rfl rfl rfl fun a hk => ?_
    refine q_call (caps := []) hk rfl rfl Tryd.func33 fo33 rfl rfl (values_q s la n lc A _ (hs.ri 0 rfl) (by omega) H4) ?_
    rintro _ w ⟨a4, c5, a6, c7, rfl, hS⟩
    have hs := hs.call2 hS
    clear hS
    refine ⟨_, rfl, fun a hk => ?_⟩
    refine q_val hk (w_mv rfl) rfl rfl rfl fun a hk => ?_
    refine q_val hk (w_ext rfl rfl) rfl rfl rfl fun a hk => ?_
    refine q_val hk (w_ext rfl rfl) rfl rfl rfl fun a hk => ?_
    refine q_val hk (w_as rfl) rfl rfl rfl fun a hk => ?_
    refine q_val hk (w_as rfl) rfl rfl rfl fun a hk => ?_
    refine (c_end (x_t ?_))
    refine wpIn_seq ?_
    refine wpIn_region_lit ?_
    refine q_val hk (w_ldA rfl ty47 (.blk (n := 14) (hs.mi 3 rfl) rfl) rfl) rfl rfl rfl fun a hk => ?_
    refine q_val hk (w_mv rfl) rfl rfl rfl fun a hk => ?_
    refine q_val hk (w_mv rfl) rfl rfl rfl fun a hk => ?_
    refine q_call (caps := []) hk rfl rfl Tryd.func34 fo34 rfl rfl (joinQ s _ n _ N (fun i => mulm (pr s) 1 (A i)) _ (row_lst (hs.mi 1 rfl)) (fun i _ => red_lt s _)) ?_
    rintro _ w ⟨a8, k9, c10, rfl, hS⟩
    have hs := hs.call1 hS
    clear hS
    refine ⟨_, rfl, fun a hk => ?_⟩
    refine q_val hk (w_mv rfl) rfl rfl rfl fun a hk => ?_
    refine q_val hk (w_ext rfl rfl) rfl rfl rfl fun a hk => ?_
    refine q_val hk (w_ext rfl rfl) rfl rfl rfl fun a hk => ?_
    refine q_val hk (w_as rfl) rfl rfl rfl fun a hk => ?_
    refine q_val hk (w_as rfl) rfl rfl rfl fun a hk => ?_
    refine (c_end (x_t ?_))
    refine wpIn_seq ?_
    refine wpIn_seq ?_
    refine wpIn_region_lit ?_
    refine q_val hk (w_mv rfl) rfl rfl rfl fun a hk => ?_
    rcases Classical.em ((jErr n N (fun i => mulm (pr s) 1 (A i))) ≠ 0) with hc11 | hc11
    · skip
      have hkl := row_count (hs.mi 0 rfl)
      have hkz := jBytes_err (n := n) (N := N) (v := (fun i => mulm (pr s) 1 (A i))) (by omega)
      refine q_val hk (w_ne rfl rfl (decide_eq_true hc11)) rfl rfl rfl fun a hk => ?_
      refine (c_end (x_t ?_))
      refine c_T hk rfl ?_
      refine wpIn_seq ?_
      refine wpIn_region_lit ?_
      refine q_call (caps := []) hk rfl rfl Tryd.func29 fo29 rfl rfl (alive13_c _ (HL.step hs.toBelow)) ?_
      rintro _ w ⟨rfl, hb⟩
      have hs := hs.below hb
      refine ⟨_, rfl, fun a hk => ?_⟩
      refine q_val hk (w_mv rfl) rfl rfl rfl fun a hk => ?_
      refine q_val hk (w_mv rfl) rfl rfl rfl fun a hk => ?_
      refine q_val hk (w_len rfl Tryd.underlying53) rfl rfl rfl fun a hk => ?_
      refine q_val hk (w_eq rfl rfl (decide_eq_true (by omega))) rfl rfl rfl fun a hk => ?_
      refine q_val hk (w_pickT rfl rfl) rfl rfl rfl fun a hk => ?_
      refine q_val hk (w_as rfl) rfl rfl rfl fun a hk => ?_
      refine (c_end (x_t ?_))
      refine (wpIn_ret (x_tr ?_))
      refine c_ret1 hk rfl rfl ?_
      exact ⟨rfl, hs.toBelow⟩
    · skip
      have hj0 : jErr n N (fun i => mulm (pr s) 1 (A i)) = 0 := by omega
      have hkl := row_count (hs.mi 0 rfl)
      have hkN := jBytes_len hj0
      obtain ⟨hz0, hz1, hz2, hz3⟩ := jErr_zero hj0
      have hkn : (k9 : Int) = N ∧ k9 ≤ 65535 := by omega
      have hcn : cn ((k9 : Nat) : Int) = n := by rw [hkn.1]; exact hz2.symm
      have hsame : ∀ i, i < cn ((k9 : Nat) : Int) → mulm (pr s) 1 (A i) < R4 ∧ RR s (cv k9 (fun j => (jBytes n N (fun i => mulm (pr s) 1 (A i))).getD j 0) i) = RR s (mulm (pr s) 1 (A i)) := canon_eq s A hj0 hkn.1
      refine q_val hk (w_ne rfl rfl (decide_eq_false hc11)) rfl rfl rfl fun a hk => ?_
      refine (c_end (x_t ?_))
      refine c_F hk rfl ?_
      refine (wpIn_skip (x_t ?_))
      refine wpIn_seq ?_
      refine wpIn_region_lit ?_
      refine q_val hk (w_ldA rfl ty47 (.blk (n := 14) (hs.mi 4 rfl) rfl) rfl) rfl rfl rfl fun a hk => ?_
      refine q_val hk (w_mv rfl) rfl rfl rfl fun a hk => ?_
      refine q_call (caps := []) hk rfl rfl Tryd.func35 fo35 rfl rfl (splitQ s _ _ _ _ _ (jBytes_lt _ _ _) hkn.2 (row_lst (hs.mi 0 rfl))) ?_
      rintro _ w ⟨a12, c13, rfl, hS⟩
      have hs := hs.call1 hS
      clear hS
      refine ⟨_, rfl, fun a hk => ?_⟩
      refine q_val hk (w_mv rfl) rfl rfl rfl fun a hk => ?_
      refine q_val hk (w_ext rfl rfl) rfl rfl rfl fun a hk => ?_
      refine q_val hk (w_ext rfl rfl) rfl rfl rfl fun a hk => ?_
      refine q_val hk (w_as rfl) rfl rfl rfl fun a hk => ?_
      refine q_val hk (w_as rfl) rfl rfl rfl fun a hk => ?_
      refine (c_end (x_t ?_))
      refine wpIn_seq ?_
      refine wpIn_region_lit ?_
      refine q_call (caps := []) hk rfl rfl Tryd.func29 fo29 rfl rfl (alive13_c _ (HL.step hs.toBelow)) ?_
      rintro _ w ⟨rfl, hb⟩
      have hs := hs.below hb
      refine ⟨_, rfl, fun a hk => ?_⟩
      refine q_val hk (w_mv rfl) rfl rfl rfl fun a hk => ?_
      refine q_val hk (w_mv rfl) rfl rfl rfl fun a hk => ?_
      refine q_val hk (w_eq rfl rfl (decide_eq_true (by decide))) rfl rfl rfl fun a hk => ?_
      refine q_val hk (w_pickT rfl rfl) rfl rfl rfl fun a hk => ?_
      refine q_val hk (w_mv rfl) rfl rfl rfl fun a hk => ?_
      refine q_val hk (w_ldv (z := pr s) rfl ty44 (.blk (n := 4) (hs.mi 4 rfl) rfl)) rfl rfl rfl fun a hk => ?_
      refine q_val hk (w_mv rfl) rfl rfl rfl fun a hk => ?_
      refine q_val hk (w_mv rfl) rfl rfl rfl fun a hk => ?_
      refine q_call (caps := []) hk rfl rfl Tryd.func36 fo36 rfl rfl (sameQ s _ _ _ _ _ _ _ _ hcn (by omega) _ (row_lst (hs.mi 0 rfl)) (row_lst (hs.mi 2 rfl)) hsame) ?_
      rintro _ w ⟨rfl, hb⟩
      have hs := hs.below hb
      refine ⟨_, rfl, fun a hk => ?_⟩
      refine q_val hk (w_pickT rfl rfl) rfl rfl rfl fun a hk => ?_
      refine q_val hk (w_mv rfl) rfl rfl rfl fun a hk => ?_
      refine q_val hk (w_mv rfl) rfl rfl rfl fun a hk => ?_
      refine q_val hk (w_len rfl Tryd.underlying53) rfl rfl rfl fun a hk => ?_
      refine q_val hk (w_mv rfl) rfl rfl rfl fun a hk => ?_
      refine q_val hk (w_eq rfl rfl (decide_eq_true (by omega))) rfl rfl rfl fun a hk => ?_
      refine q_val hk (w_pickT rfl rfl) rfl rfl rfl fun a hk => ?_
      refine q_val hk (w_as rfl) rfl rfl rfl fun a hk => ?_
      refine (c_end (x_t ?_))
      refine (wpIn_ret ?_)
      refine c_ret1 hk rfl rfl ?_
      exact ⟨rfl, hs.toBelow⟩
end Go.Proofs.YtpggmebgndkpjaaDoor
