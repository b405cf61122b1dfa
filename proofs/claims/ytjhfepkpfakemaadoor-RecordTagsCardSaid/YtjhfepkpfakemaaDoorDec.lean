/- How a record is read. -/
import Derived.Test.YtjhfepkpfakemaaDoorRec
namespace Go.Proofs.YtjhfepkpfakemaaDoor
set_option linter.all false
open Go Go.RowKit

abbrev B (l : List Nat) (k : Nat) : Int := (((l.getD k 0) : Nat) : Int)
abbrev dL (l : List Nat) : Int := B l 4 + (256 * B l 5)
/-- What is wrong ahead of the elements. -/
def dHead (n : Nat) (l : List Nat) : Int :=
  if n < 38 then 8 else if l.getD 0 0 ≠ 1 then 11 else if l.getD 1 0 ≠ 1 ∧ l.getD 1 0 ≠ 2 then 3 else if l.getD 2 0 = 0 then 4 else if l.getD 3 0 = 0 then 12 else if (n : Int) ≠ rsz (dL l) then 8 else 0
def dS (l : List Nat) : Bool := decide (l.getD 1 0 = 2)
/-- The number at element k. -/
def dv (l : List Nat) (k : Nat) : Nat := le (fun j => l.getD (6 + 32 * k + j) 0) 32
/-- What Decode says. -/
def dErr (n : Nat) (l : List Nat) : Int := if dHead n l ≠ 0 then dHead n l else if okB (dS l) (dv l) (cn (dL l)) = true then (if tagOk n l = true then 0 else 13) else 9
def dG (n : Nat) (l : List Nat) (x : Int) : Int := if dErr n l = 0 then x else 0
def dN (n : Nat) (l : List Nat) : Nat := if dErr n l = 0 then cn (dL l) else 0
theorem dHead_zero {n : Nat} {l : List Nat} (h : dHead n l = 0) : 38 ≤ n ∧ l.getD 0 0 = 1 ∧ (l.getD 1 0 = 1 ∨ l.getD 1 0 = 2) ∧ l.getD 2 0 ≠ 0 ∧ l.getD 3 0 ≠ 0 ∧ n = 38 + 32 * cn (dL l) ∧ 0 ≤ dL l ∧ dL l ≤ 65535 := by
  unfold dHead at h
  (repeat' split at h) <;> first | omega | skip
  rename_i h1 h2 h3 h4 h5 h6
  unfold rsz at h6
  split at h6
  · exact ⟨by omega, by omega, by omega, h4, h5, by omega, by omega, by omega⟩
  · omega
theorem dS_fid {l : List Nat} (h : l.getD 1 0 = 1 ∨ l.getD 1 0 = 2) : B l 1 = fid (dS l) := by
  unfold B dS
  rcases h with h | h <;> rw [h] <;> rfl
/-- How a share lies that was read. -/
def DQ (W : World) (n : Nat) (l : List Nat) (e : Ending) (w : World) : Prop :=
  ∃ a c, e = .returned (.tuple #[.agg #[.int .i64 (dG n l (B l 1)), .int .i64 (dG n l (B l 2)), .int .i64 (dG n l (B l 3)), .int .i64 (dG n l (dL l)), .slice a (dN n l) c], .int .i64 (dErr n l)]) ∧
    Sat no W [row 51 4 (.slice a (dN n l) c) (dN n l) (en vq (fun i => RR (dS l) (dv l i)) (dN n l))] [] w
theorem DQ.bad {W w : World} {n : Nat} {l : List Nat} {q : Int} (hb : Below W.heap.size W w) (h : dErr n l = q) (hq : q ≠ 0) : DQ W n l (.returned (.tuple #[.agg #[.int .i64 0, .int .i64 0, .int .i64 0, .int .i64 0, .slice none 0 0], .int .i64 q])) w := by
  have hz : ¬ dErr n l = 0 := by rw [h]; exact hq
  have e1 : ∀ x, dG n l x = 0 := fun x => if_neg hz
  have e2 : dN n l = 0 := if_neg hz
  refine ⟨none, 0, ?_, ?_⟩
  · rw [e1, e1, e1, e1, e2, h]
  · rw [e2]
    exact ((start0 W).below hb).row0 _ _
theorem DQ.good {W w : World} {n : Nat} {l : List Nat} {a : Option Addr} {c : Nat} (h : dErr n l = 0) (hs : Sat no W [row 51 4 (.slice a (cn (dL l)) c) (cn (dL l)) (en vq (fun i => RR (dS l) (dv l i)) (cn (dL l)))] [] w) :
    DQ W n l (.returned (.tuple #[.agg #[.int .i64 (B l 1), .int .i64 (B l 2), .int .i64 (B l 3), .int .i64 (dL l), .slice a (cn (dL l)) c], .int .i64 0])) w := by
  have e1 : ∀ x, dG n l x = x := fun x => if_pos h
  have e2 : dN n l = cn (dL l) := if_pos h
  refine ⟨a, c, ?_, ?_⟩
  · rw [e1, e1, e1, e1, e2, h]
  · rw [e2]
    exact hs
theorem dErr_nine {n : Nat} {l : List Nat} {s : Bool} {N k : Nat} (h0 : dHead n l = 0) (hs : dS l = s) (hN : cn (dL l) = N) (hk : k < N) (h : ¬ dv l k < pr s) : dErr n l = 9 := by
  unfold dErr
  rw [if_neg (by rw [h0]; decide), if_neg (fun ho => h (by rw [hs, hN] at ho; exact okB_at ho hk))]
theorem dErr_tag {n : Nat} {l : List Nat} {s : Bool} {N : Nat} (h0 : dHead n l = 0) (hs : dS l = s) (hN : cn (dL l) = N) (ho : okB s (dv l) N = true) : dErr n l = if tagOk n l = true then 0 else 13 := by
  unfold dErr
  rw [if_neg (by rw [h0]; decide), hs, hN, if_pos ho]
/-- The part of an element. -/
theorem part_bytes {w : World} {a : Option Addr} {n c k : Nat} {l : List Nat} (h : LstAt w 1 (.slice a n c) n (el bc l)) (hl : ∀ x ∈ l, x < 256) (hk : 38 + 32 * k ≤ n) :
    ∃ b off, sla a c (6 + 32 * k) 1 = some ⟨b, off, none⟩ ∧ BytesAt w b off 32 (fun j => l.getD (6 + 32 * k + j) 0) := by
  have hcap := lst_cap h
  have h1 := sla_some (l := 6 + 32 * k) (m := c) h (by omega) (by omega)
  obtain ⟨a', c', he, _, _, hx⟩ := h.at_
  cases he
  obtain ⟨h2, h3, _⟩ := hx _ (lst_some h (by omega)) (by omega)
  have e : adq a = ⟨(adq a).block, (adq a).off, none⟩ := by rw [← h2]
  refine ⟨(adq a).block, (adq a).off + (6 + 32 * k), ?_, fun j => getD_lt hl _, h3, fun j hj => ?_⟩
  · rw [h1, Nat.mul_one, e, add_pos]
  · have := lst_byte h (j := 6 + 32 * k + j) (by omega)
    rw [e, add_pos, ← Nat.add_assoc] at this
    exact this
theorem refDecQ (s : Bool) (a : Option Addr) (n c k : Nat) (l : List Nat) (w : World) (h : LstAt w 1 (.slice a n c) n (el bc l)) (hl : ∀ x ∈ l, x < 256) (hk : 38 + 32 * k ≤ n) :
    Calls Tryd.prog 38 #[vec (pr s), .slice (sla a c (6 + 32 * k) 1) (6 + 32 * k + 32 - (6 + 32 * k)) (c - (6 + 32 * k))] w fun e w' => e = .returned (if dv l k < pr s then .tuple #[vec (dv l k), .int .i64 0] else .tuple #[vec 0, .int .i64 9]) ∧ Below w.heap.size w w' := by
  obtain ⟨b, off, e, hB⟩ := part_bytes h hl hk
  rw [e, Nat.add_sub_cancel_left]
  by_cases hp : dv l k < pr s
  · rw [if_pos hp]; exact refDecode_ok _ _ _ _ _ w (pr_lt s) hB hp
  · rw [if_neg hp]; exact refDecode_big _ _ _ _ _ w (pr_lt s) (pr_pos s) hB hp
theorem decQ (s : Bool) (a : Option Addr) (n c k : Nat) (l : List Nat) (w : World) (h : LstAt w 1 (.slice a n c) n (el bc l)) (hl : ∀ x ∈ l, x < 256) (hk : 38 + 32 * k ≤ n) :
    Calls Tryd.prog 35 #[fieldV s, .slice (sla a c (6 + 32 * k) 1) (6 + 32 * k + 32 - (6 + 32 * k)) (c - (6 + 32 * k))] w fun e w' => e = .returned (if dv l k < pr s then .tuple #[vec (RR s (dv l k)), .int .i64 0] else .tuple #[vec 0, .int .i64 9]) ∧ Below w.heap.size w w' := by
  obtain ⟨b, off, e, hB⟩ := part_bytes h hl hk
  rw [e, Nat.add_sub_cancel_left]
  by_cases hp : dv l k < pr s
  · rw [if_pos hp]; exact decode_ok s _ _ _ _ w hB hp
  · rw [if_neg hp]; exact decode_big s _ _ _ _ w hB hp
theorem tag_iff {n : Nat} {l : List Nat} (hn : n = l.length) (h : 32 ≤ n) : (l.take (n - 32) ++ shaL (l.take (n - 32)) ≠ l) ↔ ¬ tagOk n l = true := by
  unfold tagOk
  rw [decide_eq_true_eq]
  have e : l = l.take (n - 32) ++ (l.drop (n - 32)).take 32 := by
    rw [List.take_of_length_le (l := l.drop (n - 32)) (by rw [List.length_drop]; omega)]
    exact (List.take_append_drop _ _).symm
  constructor
  · intro h1 h2
    rw [h2] at h1
    exact h1 e.symm
  · intro h1 h2
    exact h1 (List.append_cancel_left (h2.trans e))
theorem head_c (la : Option Addr) (n lc : Nat) (l : List Nat) (W : World) (H : LstAt W 1 (.slice la n lc) n (el bc l)) (hl : ∀ x ∈ l, x < 256) (hn : n ≤ 100000) : Calls Tryd.prog 37 [.slice la n lc].toArray W fun e w => e = .returned (.int .i64 (dHead n l)) ∧ Below W.heap.size W w := by
  have hlen := lst_num H
  have g0 := getD_lt hl 0
  have g1 := getD_lt hl 1
  have g2 := getD_lt hl 2
  have g3 := getD_lt hl 3
  have g4 := getD_lt hl 4
  have g5 := getD_lt hl 5
  refine c_enter (args := [.slice la n lc]) Tryd.func37 rfl rfl rfl fun a hk => ?_
  have hs := Sat.start W [lst 1 (.slice la n lc) n (el bc l)] (okr1 H)
  refine wpIn_seq ?_
  refine wpIn_region_lit ?_
  refine q_val hk (w_as rfl) rfl rfl rfl fun a hk => ?_
  refine (c_end (x_t ?_))
  refine wpIn_seq ?_
  refine wpIn_block ?_
  refine wpIn_seq ?_
  refine wpIn_region_lit ?_
  refine q_val hk (w_mv rfl) rfl rfl rfl fun a hk => ?_
  refine q_val hk (w_len rfl Tryd.underlying29) rfl rfl rfl fun a hk => ?_
  rcases Classical.em (((n : Nat) : Int) < 38) with hc1 | hc1
  · skip
    refine q_val hk (w_lt rfl rfl (decide_eq_true hc1)) rfl rfl rfl fun a hk => ?_
    refine q_val hk (w_as rfl) rfl rfl rfl fun a hk => ?_
    refine (c_end (x_t ?_))
    refine c_T hk rfl ?_
    refine wpIn_seq ?_
    refine wpIn_region_lit ?_
    refine q_val hk (w_as rfl) rfl rfl rfl fun a hk => ?_
    refine (c_end (x_t ?_))
    refine (wpIn_ret (x_br (x_tr ?_)))
    refine c_ret1 hk rfl rfl ?_
    refine ⟨?_, hs.toBelow⟩
    unfold dHead
    rw [if_pos (by omega)]
  · skip
    refine q_val hk (w_lt rfl rfl (decide_eq_false hc1)) rfl rfl rfl fun a hk => ?_
    refine q_val hk (w_as rfl) rfl rfl rfl fun a hk => ?_
    refine (c_end (x_t ?_))
    refine c_F hk rfl ?_
    refine wpIn_seq ?_
    refine wpIn_region_lit ?_
    refine q_val hk (w_mv rfl) rfl rfl rfl fun a hk => ?_
    refine q_val hk (w_iaL (k := 0) rfl rfl Tryd.underlying29 ty5 (hs.ri 0 rfl) (by omega) (by omega)) rfl rfl rfl fun a hk => ?_
    refine q_val hk (w_ld1 rfl ty5 (lstq (k := 0) (hs.ri 0 rfl) (by omega) (el_chunk bc_len (by omega) 0))) rfl rfl rfl fun a hk => ?_
    rcases Classical.em ((((l.getD 0 0) : Nat) : Int) ≠ 1) with hc2 | hc2
    · skip
      refine q_val hk (w_ne rfl rfl (decide_eq_true hc2)) rfl rfl rfl fun a hk => ?_
      refine q_val hk (w_as rfl) rfl rfl rfl fun a hk => ?_
      refine (c_end (x_t ?_))
      refine c_T hk rfl ?_
      refine wpIn_seq ?_
      refine wpIn_region_lit ?_
      refine q_val hk (w_as rfl) rfl rfl rfl fun a hk => ?_
      refine (c_end (x_t ?_))
      refine (wpIn_ret (x_br (x_tr ?_)))
      refine c_ret1 hk rfl rfl ?_
      refine ⟨?_, hs.toBelow⟩
      unfold dHead
      rw [if_neg (by omega), if_pos (by omega)]
    · skip
      refine q_val hk (w_ne rfl rfl (decide_eq_false hc2)) rfl rfl rfl fun a hk => ?_
      refine q_val hk (w_as rfl) rfl rfl rfl fun a hk => ?_
      refine (c_end (x_t ?_))
      refine c_F hk rfl ?_
      refine wpIn_seq ?_
      refine wpIn_region_lit ?_
      refine q_val hk (w_mv rfl) rfl rfl rfl fun a hk => ?_
      refine q_val hk (w_iaL (k := 1) rfl rfl Tryd.underlying29 ty5 (hs.ri 0 rfl) (by omega) (by omega)) rfl rfl rfl fun a hk => ?_
      refine q_val hk (w_ld1 rfl ty5 (lstq (k := 1) (hs.ri 0 rfl) (by omega) (el_chunk bc_len (by omega) 0))) rfl rfl rfl fun a hk => ?_
      rcases Classical.em ((((l.getD 1 0) : Nat) : Int) ≠ 1) with hc3 | hc3
      · skip
        refine q_val hk (w_ne rfl rfl (decide_eq_true hc3)) rfl rfl rfl fun a hk => ?_
        refine q_val hk (w_mv rfl) rfl rfl rfl fun a hk => ?_
        refine q_val hk (w_mv rfl) rfl rfl rfl fun a hk => ?_
        refine q_val hk (w_iaL (k := 1) rfl rfl Tryd.underlying29 ty5 (hs.ri 0 rfl) (by omega) (by omega)) rfl rfl rfl fun a hk => ?_
        refine q_val hk (w_ld1 rfl ty5 (lstq (k := 1) (hs.ri 0 rfl) (by omega) (el_chunk bc_len (by omega) 0))) rfl rfl rfl fun a hk => ?_
        rcases Classical.em ((((l.getD 1 0) : Nat) : Int) ≠ 2) with hc4 | hc4
        · skip
          refine q_val hk (w_ne rfl rfl (decide_eq_true hc4)) rfl rfl rfl fun a hk => ?_
          refine q_val hk (w_pickT rfl rfl) rfl rfl rfl fun a hk => ?_
          refine q_val hk (w_as rfl) rfl rfl rfl fun a hk => ?_
          refine (c_end (x_t ?_))
          refine c_T hk rfl ?_
          refine wpIn_seq ?_
          refine wpIn_region_lit ?_
          refine q_val hk (w_as rfl) rfl rfl rfl fun a hk => ?_
          refine (c_end (x_t ?_))
          refine (wpIn_ret (x_br (x_tr ?_)))
          refine c_ret1 hk rfl rfl ?_
          refine ⟨?_, hs.toBelow⟩
          unfold dHead
          rw [if_neg (by omega), if_neg (by omega), if_pos (by omega)]
        · skip
          refine q_val hk (w_ne rfl rfl (decide_eq_false hc4)) rfl rfl rfl fun a hk => ?_
          refine q_val hk (w_pickT rfl rfl) rfl rfl rfl fun a hk => ?_
          refine q_val hk (w_as rfl) rfl rfl rfl fun a hk => ?_
          refine (c_end (x_t ?_))
          refine c_F hk rfl ?_
          refine wpIn_seq ?_
          refine wpIn_region_lit ?_
          refine q_val hk (w_mv rfl) rfl rfl rfl fun a hk => ?_
          refine q_val hk (w_iaL (k := 2) rfl rfl Tryd.underlying29 ty5 (hs.ri 0 rfl) (by omega) (by omega)) rfl rfl rfl fun a hk => ?_
          refine q_val hk (w_ld1 rfl ty5 (lstq (k := 2) (hs.ri 0 rfl) (by omega) (el_chunk bc_len (by omega) 0))) rfl rfl rfl fun a hk => ?_
          rcases Classical.em ((((l.getD 2 0) : Nat) : Int) = 0) with hc5 | hc5
          · skip
            refine q_val hk (w_eq rfl rfl (decide_eq_true hc5)) rfl rfl rfl fun a hk => ?_
            refine q_val hk (w_as rfl) rfl rfl rfl fun a hk => ?_
            refine (c_end (x_t ?_))
            refine c_T hk rfl ?_
            refine wpIn_seq ?_
            refine wpIn_region_lit ?_
            refine q_val hk (w_as rfl) rfl rfl rfl fun a hk => ?_
            refine (c_end (x_t ?_))
            refine (wpIn_ret (x_br (x_tr ?_)))
            refine c_ret1 hk rfl rfl ?_
            refine ⟨?_, hs.toBelow⟩
            unfold dHead
            rw [if_neg (by omega), if_neg (by omega), if_neg (by omega), if_pos (by omega)]
          · skip
            refine q_val hk (w_eq rfl rfl (decide_eq_false hc5)) rfl rfl rfl fun a hk => ?_
            refine q_val hk (w_as rfl) rfl rfl rfl fun a hk => ?_
            refine (c_end (x_t ?_))
            refine c_F hk rfl ?_
            refine wpIn_seq ?_
            refine wpIn_region_lit ?_
            refine q_val hk (w_mv rfl) rfl rfl rfl fun a hk => ?_
            refine q_val hk (w_iaL (k := 3) rfl rfl Tryd.underlying29 ty5 (hs.ri 0 rfl) (by omega) (by omega)) rfl rfl rfl fun a hk => ?_
            refine q_val hk (w_ld1 rfl ty5 (lstq (k := 3) (hs.ri 0 rfl) (by omega) (el_chunk bc_len (by omega) 0))) rfl rfl rfl fun a hk => ?_
            rcases Classical.em ((((l.getD 3 0) : Nat) : Int) = 0) with hc6 | hc6
            · skip
              refine q_val hk (w_eq rfl rfl (decide_eq_true hc6)) rfl rfl rfl fun a hk => ?_
              refine q_val hk (w_as rfl) rfl rfl rfl fun a hk => ?_
              refine (c_end (x_t ?_))
              refine c_T hk rfl ?_
              refine wpIn_seq ?_
              refine wpIn_region_lit ?_
              refine q_val hk (w_as rfl) rfl rfl rfl fun a hk => ?_
              refine (c_end (x_t ?_))
              refine (wpIn_ret (x_br (x_tr ?_)))
              refine c_ret1 hk rfl rfl ?_
              refine ⟨?_, hs.toBelow⟩
              unfold dHead
              rw [if_neg (by omega), if_neg (by omega), if_neg (by omega), if_neg (by omega), if_pos (by omega)]
            · skip
              refine q_val hk (w_eq rfl rfl (decide_eq_false hc6)) rfl rfl rfl fun a hk => ?_
              refine q_val hk (w_as rfl) rfl rfl rfl fun a hk => ?_
              refine (c_end (x_t ?_))
              refine c_F hk rfl ?_
              refine wpIn_seq ?_
              rcases Classical.em (((n : Nat) : Int) ≠ rsz ((((l.getD 4 0) : Nat) : Int) + (256 * (((l.getD 5 0) : Nat) : Int)))) with hc7 | hc7
              · skip
                have hL := okL.cons (hs.ri 0 rfl) okL.nil
                refine d_begin _ 15 (by kernel_rfl) rfl hs hL fun w hs hL => ?_
                refine d_v 0 1 hk hL rfl (by kernel_rfl) rfl rfl (fun w hL => w_mv rfl) fun a hk => ?_
                refine d_v 1 3 hk hL rfl (by kernel_rfl) rfl rfl (fun w hL => w_len rfl Tryd.underlying29) fun a hk => ?_
                refine d_v 2 7 hk hL rfl (by kernel_rfl) rfl rfl (fun w hL => w_mv rfl) fun a hk => ?_
                refine d_v 3 15 hk hL rfl (by kernel_rfl) rfl rfl (fun w hL => w_iaL (k := 4) rfl rfl Tryd.underlying29 ty5 (hL.at 0 rfl) (by omega) (by omega)) fun a hk => ?_
                refine d_v 4 31 hk hL rfl (by kernel_rfl) rfl rfl (fun w hL => w_ld1 rfl ty5 (lstq (k := 4) (hL.at 0 rfl) (by omega) (el_chunk bc_len (by omega) 0))) fun a hk => ?_
                refine d_v 5 63 hk hL rfl (by kernel_rfl) rfl rfl (fun w hL => w_conv rfl Tryd.underlying5 Tryd.underlying3 (wr64 (by omega) (by omega))) fun a hk => ?_
                refine d_v 6 127 hk hL rfl (by kernel_rfl) rfl rfl (fun w hL => w_mv rfl) fun a hk => ?_
                refine d_v 7 255 hk hL rfl (by kernel_rfl) rfl rfl (fun w hL => w_iaL (k := 5) rfl rfl Tryd.underlying29 ty5 (hL.at 0 rfl) (by omega) (by omega)) fun a hk => ?_
                refine d_v 8 511 hk hL rfl (by kernel_rfl) rfl rfl (fun w hL => w_ld1 rfl ty5 (lstq (k := 5) (hL.at 0 rfl) (by omega) (el_chunk bc_len (by omega) 0))) fun a hk => ?_
                refine d_v 9 1023 hk hL rfl (by kernel_rfl) rfl rfl (fun w hL => w_conv rfl Tryd.underlying5 Tryd.underlying3 (wr64 (by omega) (by omega))) fun a hk => ?_
                refine d_v 10 2047 hk hL rfl (by kernel_rfl) rfl rfl (fun w hL => w_mul rfl rfl (wr64 (by omega) (by omega))) fun a hk => ?_
                refine d_v 11 4095 hk hL rfl (by kernel_rfl) rfl rfl (fun w hL => w_add rfl rfl (wr64 (by omega) (by omega))) fun a hk => ?_
                refine d_1 12 8191 rfl (by kernel_rfl) fun K hK => ?_
                refine q_call (caps := []) hk rfl rfl Tryd.func11 fo11 rfl rfl (refSize_c ((((l.getD 4 0) : Nat) : Int) + (256 * (((l.getD 5 0) : Nat) : Int))) _) ?_
                rintro _ w ⟨rfl, hb⟩
                have hs := hs.below hb
                refine ⟨_, rfl, fun a hk => ?_⟩
                have hL := okL.cons (hs.ri 0 rfl) okL.nil
                refine c_end (x_t (hK _ _ hL ?_))
                clear hK K
                refine d_v 13 16383 hk hL rfl (by kernel_rfl) rfl rfl (fun w hL => w_ne rfl rfl (decide_eq_true hc7)) fun a hk => ?_
                refine d_v 14 32767 hk hL rfl (by kernel_rfl) rfl rfl (fun w hL => w_as rfl) fun a hk => ?_
                refine d_end (by kernel_rfl) ?_
                refine (x_t ?_)
                refine c_T hk rfl ?_
                refine wpIn_seq ?_
                refine wpIn_region_lit ?_
                refine q_val hk (w_as rfl) rfl rfl rfl fun a hk => ?_
                refine (c_end (x_t ?_))
                refine (wpIn_ret (x_br (x_tr ?_)))
                refine c_ret1 hk rfl rfl ?_
                refine ⟨?_, hs.toBelow⟩
                unfold dHead
                rw [if_neg (by omega), if_neg (by omega), if_neg (by omega), if_neg (by omega), if_neg (by omega), if_pos hc7]
              · skip
                have hL := okL.cons (hs.ri 0 rfl) okL.nil
                refine d_begin _ 15 (by kernel_rfl) rfl hs hL fun w hs hL => ?_
                refine d_v 0 1 hk hL rfl (by kernel_rfl) rfl rfl (fun w hL => w_mv rfl) fun a hk => ?_
                refine d_v 1 3 hk hL rfl (by kernel_rfl) rfl rfl (fun w hL => w_len rfl Tryd.underlying29) fun a hk => ?_
                refine d_v 2 7 hk hL rfl (by kernel_rfl) rfl rfl (fun w hL => w_mv rfl) fun a hk => ?_
                refine d_v 3 15 hk hL rfl (by kernel_rfl) rfl rfl (fun w hL => w_iaL (k := 4) rfl rfl Tryd.underlying29 ty5 (hL.at 0 rfl) (by omega) (by omega)) fun a hk => ?_
                refine d_v 4 31 hk hL rfl (by kernel_rfl) rfl rfl (fun w hL => w_ld1 rfl ty5 (lstq (k := 4) (hL.at 0 rfl) (by omega) (el_chunk bc_len (by omega) 0))) fun a hk => ?_
                refine d_v 5 63 hk hL rfl (by kernel_rfl) rfl rfl (fun w hL => w_conv rfl Tryd.underlying5 Tryd.underlying3 (wr64 (by omega) (by omega))) fun a hk => ?_
                refine d_v 6 127 hk hL rfl (by kernel_rfl) rfl rfl (fun w hL => w_mv rfl) fun a hk => ?_
                refine d_v 7 255 hk hL rfl (by kernel_rfl) rfl rfl (fun w hL => w_iaL (k := 5) rfl rfl Tryd.underlying29 ty5 (hL.at 0 rfl) (by omega) (by omega)) fun a hk => ?_
                refine d_v 8 511 hk hL rfl (by kernel_rfl) rfl rfl (fun w hL => w_ld1 rfl ty5 (lstq (k := 5) (hL.at 0 rfl) (by omega) (el_chunk bc_len (by omega) 0))) fun a hk => ?_
                refine d_v 9 1023 hk hL rfl (by kernel_rfl) rfl rfl (fun w hL => w_conv rfl Tryd.underlying5 Tryd.underlying3 (wr64 (by omega) (by omega))) fun a hk => ?_
                refine d_v 10 2047 hk hL rfl (by kernel_rfl) rfl rfl (fun w hL => w_mul rfl rfl (wr64 (by omega) (by omega))) fun a hk => ?_
                refine d_v 11 4095 hk hL rfl (by kernel_rfl) rfl rfl (fun w hL => w_add rfl rfl (wr64 (by omega) (by omega))) fun a hk => ?_
                refine d_1 12 8191 rfl (by kernel_rfl) fun K hK => ?_
                refine q_call (caps := []) hk rfl rfl Tryd.func11 fo11 rfl rfl (refSize_c ((((l.getD 4 0) : Nat) : Int) + (256 * (((l.getD 5 0) : Nat) : Int))) _) ?_
                rintro _ w ⟨rfl, hb⟩
                have hs := hs.below hb
                refine ⟨_, rfl, fun a hk => ?_⟩
                have hL := okL.cons (hs.ri 0 rfl) okL.nil
                refine c_end (x_t (hK _ _ hL ?_))
                clear hK K
                refine d_v 13 16383 hk hL rfl (by kernel_rfl) rfl rfl (fun w hL => w_ne rfl rfl (decide_eq_false hc7)) fun a hk => ?_
                refine d_v 14 32767 hk hL rfl (by kernel_rfl) rfl rfl (fun w hL => w_as rfl) fun a hk => ?_
                refine d_end (by kernel_rfl) ?_
                refine (x_t ?_)
                refine c_F hk rfl ?_
                refine (wpIn_skip (x_b (x_t ?_)))
                refine wpIn_seq ?_
                refine wpIn_region_lit ?_
                refine q_val hk (w_as rfl) rfl rfl rfl fun a hk => ?_
                refine (c_end (x_t ?_))
                refine (wpIn_ret ?_)
                refine c_ret1 hk rfl rfl ?_
                refine ⟨?_, hs.toBelow⟩
                unfold dHead
                rw [if_neg (by omega), if_neg (by omega), if_neg (by omega), if_neg (by omega), if_neg (by omega), if_neg hc7]
      · skip
        refine q_val hk (w_ne rfl rfl (decide_eq_false hc3)) rfl rfl rfl fun a hk => ?_
        refine q_val hk (w_mv rfl) rfl rfl rfl fun a hk => ?_
        refine q_skip hk rfl rfl fun a hk => ?_
        refine q_skip hk rfl rfl fun a hk => ?_
        refine q_skip hk rfl rfl fun a hk => ?_
        refine q_skip hk rfl rfl fun a hk => ?_
        refine q_val hk (w_pickF rfl rfl) rfl rfl rfl fun a hk => ?_
        refine q_val hk (w_as rfl) rfl rfl rfl fun a hk => ?_
        refine (c_end (x_t ?_))
        refine c_F hk rfl ?_
        refine wpIn_seq ?_
        refine wpIn_region_lit ?_
        refine q_val hk (w_mv rfl) rfl rfl rfl fun a hk => ?_
        refine q_val hk (w_iaL (k := 2) rfl rfl Tryd.underlying29 ty5 (hs.ri 0 rfl) (by omega) (by omega)) rfl rfl rfl fun a hk => ?_
        refine q_val hk (w_ld1 rfl ty5 (lstq (k := 2) (hs.ri 0 rfl) (by omega) (el_chunk bc_len (by omega) 0))) rfl rfl rfl fun a hk => ?_
        rcases Classical.em ((((l.getD 2 0) : Nat) : Int) = 0) with hc8 | hc8
        · skip
          refine q_val hk (w_eq rfl rfl (decide_eq_true hc8)) rfl rfl rfl fun a hk => ?_
          refine q_val hk (w_as rfl) rfl rfl rfl fun a hk => ?_
          refine (c_end (x_t ?_))
          refine c_T hk rfl ?_
          refine wpIn_seq ?_
          refine wpIn_region_lit ?_
          refine q_val hk (w_as rfl) rfl rfl rfl fun a hk => ?_
          refine (c_end (x_t ?_))
          refine (wpIn_ret (x_br (x_tr ?_)))
          refine c_ret1 hk rfl rfl ?_
          refine ⟨?_, hs.toBelow⟩
          unfold dHead
          rw [if_neg (by omega), if_neg (by omega), if_neg (by omega), if_pos (by omega)]
        · skip
          refine q_val hk (w_eq rfl rfl (decide_eq_false hc8)) rfl rfl rfl fun a hk => ?_
          refine q_val hk (w_as rfl) rfl rfl rfl fun a hk => ?_
          refine (c_end (x_t ?_))
          refine c_F hk rfl ?_
          refine wpIn_seq ?_
          refine wpIn_region_lit ?_
          refine q_val hk (w_mv rfl) rfl rfl rfl fun a hk => ?_
          refine q_val hk (w_iaL (k := 3) rfl rfl Tryd.underlying29 ty5 (hs.ri 0 rfl) (by omega) (by omega)) rfl rfl rfl fun a hk => ?_
          refine q_val hk (w_ld1 rfl ty5 (lstq (k := 3) (hs.ri 0 rfl) (by omega) (el_chunk bc_len (by omega) 0))) rfl rfl rfl fun a hk => ?_
          rcases Classical.em ((((l.getD 3 0) : Nat) : Int) = 0) with hc9 | hc9
          · skip
            refine q_val hk (w_eq rfl rfl (decide_eq_true hc9)) rfl rfl rfl fun a hk => ?_
            refine q_val hk (w_as rfl) rfl rfl rfl fun a hk => ?_
            refine (c_end (x_t ?_))
            refine c_T hk rfl ?_
            refine wpIn_seq ?_
            refine wpIn_region_lit ?_
            refine q_val hk (w_as rfl) rfl rfl rfl fun a hk => ?_
            refine (c_end (x_t ?_))
            refine (wpIn_ret (x_br (x_tr ?_)))
            refine c_ret1 hk rfl rfl ?_
            refine ⟨?_, hs.toBelow⟩
            unfold dHead
            rw [if_neg (by omega), if_neg (by omega), if_neg (by omega), if_neg (by omega), if_pos (by omega)]
          · skip
            refine q_val hk (w_eq rfl rfl (decide_eq_false hc9)) rfl rfl rfl fun a hk => ?_
            refine q_val hk (w_as rfl) rfl rfl rfl fun a hk => ?_
            refine (c_end (x_t ?_))
            refine c_F hk rfl ?_
            refine wpIn_seq ?_
            rcases Classical.em (((n : Nat) : Int) ≠ rsz ((((l.getD 4 0) : Nat) : Int) + (256 * (((l.getD 5 0) : Nat) : Int)))) with hc10 | hc10
            · skip
              have hL := okL.cons (hs.ri 0 rfl) okL.nil
              refine d_begin _ 15 (by kernel_rfl) rfl hs hL fun w hs hL => ?_
              refine d_v 0 1 hk hL rfl (by kernel_rfl) rfl rfl (fun w hL => w_mv rfl) fun a hk => ?_
              refine d_v 1 3 hk hL rfl (by kernel_rfl) rfl rfl (fun w hL => w_len rfl Tryd.underlying29) fun a hk => ?_
              refine d_v 2 7 hk hL rfl (by kernel_rfl) rfl rfl (fun w hL => w_mv rfl) fun a hk => ?_
              refine d_v 3 15 hk hL rfl (by kernel_rfl) rfl rfl (fun w hL => w_iaL (k := 4) rfl rfl Tryd.underlying29 ty5 (hL.at 0 rfl) (by omega) (by omega)) fun a hk => ?_
              refine d_v 4 31 hk hL rfl (by kernel_rfl) rfl rfl (fun w hL => w_ld1 rfl ty5 (lstq (k := 4) (hL.at 0 rfl) (by omega) (el_chunk bc_len (by omega) 0))) fun a hk => ?_
              refine d_v 5 63 hk hL rfl (by kernel_rfl) rfl rfl (fun w hL => w_conv rfl Tryd.underlying5 Tryd.underlying3 (wr64 (by omega) (by omega))) fun a hk => ?_
              refine d_v 6 127 hk hL rfl (by kernel_rfl) rfl rfl (fun w hL => w_mv rfl) fun a hk => ?_
              refine d_v 7 255 hk hL rfl (by kernel_rfl) rfl rfl (fun w hL => w_iaL (k := 5) rfl rfl Tryd.underlying29 ty5 (hL.at 0 rfl) (by omega) (by omega)) fun a hk => ?_
              refine d_v 8 511 hk hL rfl (by kernel_rfl) rfl rfl (fun w hL => w_ld1 rfl ty5 (lstq (k := 5) (hL.at 0 rfl) (by omega) (el_chunk bc_len (by omega) 0))) fun a hk => ?_
              refine d_v 9 1023 hk hL rfl (by kernel_rfl) rfl rfl (fun w hL => w_conv rfl Tryd.underlying5 Tryd.underlying3 (wr64 (by omega) (by omega))) fun a hk => ?_
              refine d_v 10 2047 hk hL rfl (by kernel_rfl) rfl rfl (fun w hL => w_mul rfl rfl (wr64 (by omega) (by omega))) fun a hk => ?_
              refine d_v 11 4095 hk hL rfl (by kernel_rfl) rfl rfl (fun w hL => w_add rfl rfl (wr64 (by omega) (by omega))) fun a hk => ?_
              refine d_1 12 8191 rfl (by kernel_rfl) fun K hK => ?_
              refine q_call (caps := []) hk rfl rfl Tryd.func11 fo11 rfl rfl (refSize_c ((((l.getD 4 0) : Nat) : Int) + (256 * (((l.getD 5 0) : Nat) : Int))) _) ?_
              rintro _ w ⟨rfl, hb⟩
              have hs := hs.below hb
              refine ⟨_, rfl, fun a hk => ?_⟩
              have hL := okL.cons (hs.ri 0 rfl) okL.nil
              refine c_end (x_t (hK _ _ hL ?_))
              clear hK K
              refine d_v 13 16383 hk hL rfl (by kernel_rfl) rfl rfl (fun w hL => w_ne rfl rfl (decide_eq_true hc10)) fun a hk => ?_
              refine d_v 14 32767 hk hL rfl (by kernel_rfl) rfl rfl (fun w hL => w_as rfl) fun a hk => ?_
              refine d_end (by kernel_rfl) ?_
              refine (x_t ?_)
              refine c_T hk rfl ?_
              refine wpIn_seq ?_
              refine wpIn_region_lit ?_
              refine q_val hk (w_as rfl) rfl rfl rfl fun a hk => ?_
              refine (c_end (x_t ?_))
              refine (wpIn_ret (x_br (x_tr ?_)))
              refine c_ret1 hk rfl rfl ?_
              refine ⟨?_, hs.toBelow⟩
              unfold dHead
              rw [if_neg (by omega), if_neg (by omega), if_neg (by omega), if_neg (by omega), if_neg (by omega), if_pos hc10]
            · skip
              have hL := okL.cons (hs.ri 0 rfl) okL.nil
              refine d_begin _ 15 (by kernel_rfl) rfl hs hL fun w hs hL => ?_
              refine d_v 0 1 hk hL rfl (by kernel_rfl) rfl rfl (fun w hL => w_mv rfl) fun a hk => ?_
              refine d_v 1 3 hk hL rfl (by kernel_rfl) rfl rfl (fun w hL => w_len rfl Tryd.underlying29) fun a hk => ?_
              refine d_v 2 7 hk hL rfl (by kernel_rfl) rfl rfl (fun w hL => w_mv rfl) fun a hk => ?_
              refine d_v 3 15 hk hL rfl (by kernel_rfl) rfl rfl (fun w hL => w_iaL (k := 4) rfl rfl Tryd.underlying29 ty5 (hL.at 0 rfl) (by omega) (by omega)) fun a hk => ?_
              refine d_v 4 31 hk hL rfl (by kernel_rfl) rfl rfl (fun w hL => w_ld1 rfl ty5 (lstq (k := 4) (hL.at 0 rfl) (by omega) (el_chunk bc_len (by omega) 0))) fun a hk => ?_
              refine d_v 5 63 hk hL rfl (by kernel_rfl) rfl rfl (fun w hL => w_conv rfl Tryd.underlying5 Tryd.underlying3 (wr64 (by omega) (by omega))) fun a hk => ?_
              refine d_v 6 127 hk hL rfl (by kernel_rfl) rfl rfl (fun w hL => w_mv rfl) fun a hk => ?_
              refine d_v 7 255 hk hL rfl (by kernel_rfl) rfl rfl (fun w hL => w_iaL (k := 5) rfl rfl Tryd.underlying29 ty5 (hL.at 0 rfl) (by omega) (by omega)) fun a hk => ?_
              refine d_v 8 511 hk hL rfl (by kernel_rfl) rfl rfl (fun w hL => w_ld1 rfl ty5 (lstq (k := 5) (hL.at 0 rfl) (by omega) (el_chunk bc_len (by omega) 0))) fun a hk => ?_
              refine d_v 9 1023 hk hL rfl (by kernel_rfl) rfl rfl (fun w hL => w_conv rfl Tryd.underlying5 Tryd.underlying3 (wr64 (by omega) (by omega))) fun a hk => ?_
              refine d_v 10 2047 hk hL rfl (by kernel_rfl) rfl rfl (fun w hL => w_mul rfl rfl (wr64 (by omega) (by omega))) fun a hk => ?_
              refine d_v 11 4095 hk hL rfl (by kernel_rfl) rfl rfl (fun w hL => w_add rfl rfl (wr64 (by omega) (by omega))) fun a hk => ?_
              refine d_1 12 8191 rfl (by kernel_rfl) fun K hK => ?_
              refine q_call (caps := []) hk rfl rfl Tryd.func11 fo11 rfl rfl (refSize_c ((((l.getD 4 0) : Nat) : Int) + (256 * (((l.getD 5 0) : Nat) : Int))) _) ?_
              rintro _ w ⟨rfl, hb⟩
              have hs := hs.below hb
              refine ⟨_, rfl, fun a hk => ?_⟩
              have hL := okL.cons (hs.ri 0 rfl) okL.nil
              refine c_end (x_t (hK _ _ hL ?_))
              clear hK K
              refine d_v 13 16383 hk hL rfl (by kernel_rfl) rfl rfl (fun w hL => w_ne rfl rfl (decide_eq_false hc10)) fun a hk => ?_
              refine d_v 14 32767 hk hL rfl (by kernel_rfl) rfl rfl (fun w hL => w_as rfl) fun a hk => ?_
              refine d_end (by kernel_rfl) ?_
              refine (x_t ?_)
              refine c_F hk rfl ?_
              refine (wpIn_skip (x_b (x_t ?_)))
              refine wpIn_seq ?_
              refine wpIn_region_lit ?_
              refine q_val hk (w_as rfl) rfl rfl rfl fun a hk => ?_
              refine (c_end (x_t ?_))
              refine (wpIn_ret ?_)
              refine c_ret1 hk rfl rfl ?_
              refine ⟨?_, hs.toBelow⟩
              unfold dHead
              rw [if_neg (by omega), if_neg (by omega), if_neg (by omega), if_neg (by omega), if_neg (by omega), if_neg hc10]
theorem refModulus_eq {v : Int} {s : Bool} (h : v = fid s) (w : World) : Calls Tryd.prog 31 #[.int .i64 v] w fun e w' => e = .returned (vec (pr s)) ∧ Below w.heap.size w w' := by subst h; exact refModulus_c s w
theorem get_eq {v : Int} {s : Bool} (h : v = fid s) (w : World) (hL : Laid w) : Calls Tryd.prog 28 #[.int .i64 v] w fun e w' => e = .returned (.tuple #[fieldV s, .int .i64 0]) ∧ Below w.heap.size w w' := by subst h; exact get_c s w hL
theorem refForm_eq (s : Bool) (v : Nat) (hv : v < pr s) (w : World) : Calls Tryd.prog 39 #[vec (pr s), vec v] w fun e w' => e = .returned (vec (RR s v)) ∧ Below w.heap.size w w' :=
  refForm_c (pr s) v (pr_lt s) (by cases s <;> decide) (Nat.lt_trans hv (pr_lt s)) w
theorem okB_more {s : Bool} {X : Nat → Nat} {k : Nat} (h : okB s X k = true) (hp : X k < pr s) : okB s X (k + 1) = true := by rw [okB_succ, h]; simpa using hp
theorem tagd_lt {l m : List Nat} {k : Nat} (hl : ∀ x ∈ l, x < 256) : ∀ x ∈ l.take k ++ shaL m, x < 256 := by
  intro x hx
  rcases List.mem_append.1 hx with hx | hx
  · exact take_lt hl _ x hx
  · exact shaL_lt _ x hx
theorem refDec_bad (la : Option Addr) (n lc : Nat) (l : List Nat) (W : World) (H : LstAt W 1 (.slice la n lc) n (el bc l)) (hl : ∀ x ∈ l, x < 256) (hn : n ≤ 100000) (h0 : dHead n l ≠ 0) : Calls Tryd.prog 17 [.slice la n lc].toArray W fun e w => DQ W n l e w := by
  refine c_enter (args := [.slice la n lc]) Tryd.func17 rfl rfl rfl fun a hk => ?_
  have hs := Sat.start W [lst 1 (.slice la n lc) n (el bc l)] (okr1 H)
  refine wpIn_seq ?_
  refine wpIn_region_lit ?_
  refine q_alc (vs := [.int .i64 0, .int .i64 0, .int .i64 0, .int .i64 0, .slice none 0 0]) hk hs zr27 rfl rfl rfl fun b1 w a hk hs => ?_
  refine q_val hk (w_as rfl) rfl rfl rfl fun a hk => ?_
  refine (c_end (x_t ?_))
  refine wpIn_seq ?_
  refine wpIn_region_lit ?_
  refine q_val hk (w_mv rfl) rfl rfl rfl fun a hk => ?_
  refine q_call (caps := []) hk rfl rfl Tryd.func37 fo37 rfl rfl (head_c la n lc l _ (hs.ri 0 rfl) hl hn) ?_
  rintro _ w ⟨rfl, hb⟩
  have hs := hs.below hb
  refine ⟨_, rfl, fun a hk => ?_⟩
  refine q_val hk (w_as rfl) rfl rfl rfl fun a hk => ?_
  refine (c_end (x_t ?_))
  refine wpIn_seq ?_
  refine wpIn_seq ?_
  refine wpIn_region_lit ?_
  refine q_val hk (w_mv rfl) rfl rfl rfl fun a hk => ?_
  refine q_val hk (w_ne rfl rfl (decide_eq_true h0)) rfl rfl rfl fun a hk => ?_
  refine (c_end (x_t ?_))
  refine c_T hk rfl ?_
  refine wpIn_seq ?_
  refine wpIn_region_lit ?_
  refine q_val hk (w_bld rfl fl27 zr27 rfl rfl) rfl rfl rfl fun a hk => ?_
  refine q_val hk (w_mv rfl) rfl rfl rfl fun a hk => ?_
  refine q_sto (o := 0) (cs := [.int .i64 0, .int .i64 0, .int .i64 0, .int .i64 0, .slice none 0 0]) (vs' := [.int .i64 0, .int .i64 0, .int .i64 0, .int .i64 0, .slice none 0 0]) hk hs rfl rfl rfl ty27 rfl rfl rfl rfl rfl rfl fun w hs => ?_
  refine q_val hk (w_as rfl) rfl rfl rfl fun a hk => ?_
  refine (c_end (x_t ?_))
  refine (wpIn_ret (x_tr ?_))
  refine c_retG (vs := [.agg #[.int .i64 0, .int .i64 0, .int .i64 0, .int .i64 0, .slice none 0 0], .int .i64 (dHead n l)]) hk rfl ⟨⟨_, rfl, lv_A ty27 (.blk (n := 5) (hs.mi 0 rfl) rfl) rfl⟩, rfl, trivial⟩ rfl ?_
  exact DQ.bad hs.toBelow (by unfold dErr; rw [if_pos h0]) h0
theorem refDec_ok (s : Bool) (la : Option Addr) (n lc : Nat) (l : List Nat) (W : World) (H : LstAt W 1 (.slice la n lc) n (el bc l)) (hl : ∀ x ∈ l, x < 256) (hn : n ≤ 100000) (h0 : dHead n l = 0) (hS : dS l = s) : Calls Tryd.prog 17 [.slice la n lc].toArray W fun e w => DQ W n l e w := by
  have hlen := lst_num H
  have hcap := lst_cap H
  obtain ⟨h38, hb0, hb1, hb2, hb3, hn2, hL0, hL1⟩ := dHead_zero h0
  have hF : B l 1 = fid s := hS ▸ dS_fid hb1
  obtain ⟨N, hN⟩ : ∃ N, cn (dL l) = N := ⟨_, rfl⟩
  rw [hN] at hn2
  have hcn := cn_small (dL l)
  rw [hN] at hcn
  have g0 := getD_lt hl 0
  have g1 := getD_lt hl 1
  have g2 := getD_lt hl 2
  have g3 := getD_lt hl 3
  have g4 := getD_lt hl 4
  have g5 := getD_lt hl 5
  refine c_enter (args := [.slice la n lc]) Tryd.func17 rfl rfl rfl fun a hk => ?_
  have hs := Sat.start W [lst 1 (.slice la n lc) n (el bc l)] (okr1 H)
  refine wpIn_seq ?_
  refine wpIn_region_lit ?_
  refine q_alc (vs := [.int .i64 0, .int .i64 0, .int .i64 0, .int .i64 0, .slice none 0 0]) hk hs zr27 rfl rfl rfl fun b1 w a hk hs => ?_
  refine q_val hk (w_as rfl) rfl rfl rfl fun a hk => ?_
  refine (c_end (x_t ?_))
  refine wpIn_seq ?_
  refine wpIn_region_lit ?_
  refine q_val hk (w_mv rfl) rfl rfl rfl fun a hk => ?_
  refine q_call (caps := []) hk rfl rfl Tryd.func37 fo37 rfl rfl (head_c la n lc l _ (hs.ri 0 rfl) hl hn) ?_
  rintro _ w ⟨rfl, hb⟩
  have hs := hs.below hb
  refine ⟨_, rfl, fun a hk => ?_⟩
  refine q_val hk (w_as rfl) rfl rfl rfl fun a hk => ?_
  refine (c_end (x_t ?_))
  refine wpIn_seq ?_
  refine wpIn_seq ?_
  refine wpIn_region_lit ?_
  refine q_val hk (w_mv rfl) rfl rfl rfl fun a hk => ?_
  refine q_val hk (w_ne rfl rfl (decide_eq_false (fun h => h h0))) rfl rfl rfl fun a hk => ?_
  refine (c_end (x_t ?_))
  refine c_F hk rfl ?_
  refine (wpIn_skip (x_t ?_))
  refine wpIn_seq ?_
  have hL := okL.cons (hs.ri 0 rfl) okL.nil
  refine d_begin _ 25 (by kernel_rfl) rfl hs hL fun w hs hL => ?_
  refine d_v 0 1 hk hL rfl (by kernel_rfl) rfl rfl (fun w hL => w_mv rfl) fun a hk => ?_
  refine d_v 1 3 hk hL rfl (by kernel_rfl) rfl rfl (fun w hL => w_iaL (k := 1) rfl rfl Tryd.underlying29 ty5 (hL.at 0 rfl) (by omega) (by omega)) fun a hk => ?_
  refine d_v 2 7 hk hL rfl (by kernel_rfl) rfl rfl (fun w hL => w_ld1 rfl ty5 (lstq (k := 1) (hL.at 0 rfl) (by omega) (el_chunk bc_len (by omega) 0))) fun a hk => ?_
  refine d_v 3 15 hk hL rfl (by kernel_rfl) rfl rfl (fun w hL => w_conv rfl Tryd.underlying5 Tryd.underlying3 (wr64 (by omega) (by omega))) fun a hk => ?_
  refine d_v 4 31 hk hL rfl (by kernel_rfl) rfl rfl (fun w hL => w_mv rfl) fun a hk => ?_
  refine d_v 5 63 hk hL rfl (by kernel_rfl) rfl rfl (fun w hL => w_iaL (k := 2) rfl rfl Tryd.underlying29 ty5 (hL.at 0 rfl) (by omega) (by omega)) fun a hk => ?_
  refine d_v 6 127 hk hL rfl (by kernel_rfl) rfl rfl (fun w hL => w_ld1 rfl ty5 (lstq (k := 2) (hL.at 0 rfl) (by omega) (el_chunk bc_len (by omega) 0))) fun a hk => ?_
  refine d_v 7 255 hk hL rfl (by kernel_rfl) rfl rfl (fun w hL => w_conv rfl Tryd.underlying5 Tryd.underlying3 (wr64 (by omega) (by omega))) fun a hk => ?_
  refine d_v 8 511 hk hL rfl (by kernel_rfl) rfl rfl (fun w hL => w_mv rfl) fun a hk => ?_
  refine d_v 9 1023 hk hL rfl (by kernel_rfl) rfl rfl (fun w hL => w_iaL (k := 3) rfl rfl Tryd.underlying29 ty5 (hL.at 0 rfl) (by omega) (by omega)) fun a hk => ?_
  refine d_v 10 2047 hk hL rfl (by kernel_rfl) rfl rfl (fun w hL => w_ld1 rfl ty5 (lstq (k := 3) (hL.at 0 rfl) (by omega) (el_chunk bc_len (by omega) 0))) fun a hk => ?_
  refine d_v 11 4095 hk hL rfl (by kernel_rfl) rfl rfl (fun w hL => w_conv rfl Tryd.underlying5 Tryd.underlying3 (wr64 (by omega) (by omega))) fun a hk => ?_
  refine d_v 12 8191 hk hL rfl (by kernel_rfl) rfl rfl (fun w hL => w_mv rfl) fun a hk => ?_
  refine d_v 13 16383 hk hL rfl (by kernel_rfl) rfl rfl (fun w hL => w_iaL (k := 4) rfl rfl Tryd.underlying29 ty5 (hL.at 0 rfl) (by omega) (by omega)) fun a hk => ?_
  refine d_v 14 32767 hk hL rfl (by kernel_rfl) rfl rfl (fun w hL => w_ld1 rfl ty5 (lstq (k := 4) (hL.at 0 rfl) (by omega) (el_chunk bc_len (by omega) 0))) fun a hk => ?_
  refine d_v 15 65535 hk hL rfl (by kernel_rfl) rfl rfl (fun w hL => w_conv rfl Tryd.underlying5 Tryd.underlying3 (wr64 (by omega) (by omega))) fun a hk => ?_
  refine d_v 16 131071 hk hL rfl (by kernel_rfl) rfl rfl (fun w hL => w_mv rfl) fun a hk => ?_
  refine d_v 17 262143 hk hL rfl (by kernel_rfl) rfl rfl (fun w hL => w_iaL (k := 5) rfl rfl Tryd.underlying29 ty5 (hL.at 0 rfl) (by omega) (by omega)) fun a hk => ?_
  refine d_v 18 524287 hk hL rfl (by kernel_rfl) rfl rfl (fun w hL => w_ld1 rfl ty5 (lstq (k := 5) (hL.at 0 rfl) (by omega) (el_chunk bc_len (by omega) 0))) fun a hk => ?_
  refine d_v 19 1048575 hk hL rfl (by kernel_rfl) rfl rfl (fun w hL => w_conv rfl Tryd.underlying5 Tryd.underlying3 (wr64 (by omega) (by omega))) fun a hk => ?_
  refine d_v 20 2097151 hk hL rfl (by kernel_rfl) rfl rfl (fun w hL => w_mul rfl rfl (wr64 (by omega) (by omega))) fun a hk => ?_
  refine d_v 21 4194303 hk hL rfl (by kernel_rfl) rfl rfl (fun w hL => w_add rfl rfl (wr64 (by omega) (by omega))) fun a hk => ?_
  refine d_v 22 8388607 hk hL rfl (by kernel_rfl) rfl rfl (fun w hL => w_bld rfl fl27 zr27 rfl rfl) fun a hk => ?_
  refine d_1 23 16777215 rfl (by kernel_rfl) fun K hK => ?_
  refine q_alc (vs := [.int .i64 0, .int .i64 0, .int .i64 0, .int .i64 0, .slice none 0 0]) hk hs zr27 rfl rfl rfl fun b1_23 w a hk hs => ?_
  have hL := okL.cons (hs.ri 0 rfl) okL.nil
  refine c_end (x_t (hK _ _ hL ?_))
  clear hK K
  refine d_1 24 33554431 rfl (by kernel_rfl) fun K hK => ?_
  refine q_sto (o := 0) (cs := [.int .i64 (((l.getD 1 0) : Nat) : Int), .int .i64 (((l.getD 2 0) : Nat) : Int), .int .i64 (((l.getD 3 0) : Nat) : Int), .int .i64 ((((l.getD 4 0) : Nat) : Int) + (256 * (((l.getD 5 0) : Nat) : Int))), .slice none 0 0]) (vs' := [.int .i64 (((l.getD 1 0) : Nat) : Int), .int .i64 (((l.getD 2 0) : Nat) : Int), .int .i64 (((l.getD 3 0) : Nat) : Int), .int .i64 ((((l.getD 4 0) : Nat) : Int) + (256 * (((l.getD 5 0) : Nat) : Int))), .slice none 0 0]) hk hs rfl rfl rfl ty27 rfl rfl rfl rfl rfl rfl fun w hs => ?_
  have hL := okL.cons (hs.ri 0 rfl) okL.nil
  refine c_end (x_t (hK _ _ hL ?_))
  clear hK K
  refine d_end (by kernel_rfl) ?_
  refine (x_t ?_)
  refine wpIn_seq ?_
  refine wpIn_region_lit ?_
  refine q_val hk (w_fa rfl fq27_0 ty3) rfl rfl rfl fun a hk => ?_
  refine q_val hk (w_ld1 rfl ty3 (.blk (n := 1) (hs.mi 0 rfl) rfl)) rfl rfl rfl fun a hk => ?_
  refine q_call (caps := []) hk rfl rfl Tryd.func31 fo31 rfl rfl (refModulus_eq hF _) ?_
  rintro _ w ⟨rfl, hb⟩
  have hs := hs.below hb
  refine ⟨_, rfl, fun a hk => ?_⟩
  refine q_alc (vs := [.int .u64 0, .int .u64 0, .int .u64 0, .int .u64 0]) hk hs zr50 rfl rfl rfl fun b2 w a hk hs => ?_
  refine q_sto (o := 0) (cs := [.int .u64 ((dg 0 (pr s) : Nat) : Int), .int .u64 ((dg 1 (pr s) : Nat) : Int), .int .u64 ((dg 2 (pr s) : Nat) : Int), .int .u64 ((dg 3 (pr s) : Nat) : Int)]) (vs' := [.int .u64 ((dg 0 (pr s) : Nat) : Int), .int .u64 ((dg 1 (pr s) : Nat) : Int), .int .u64 ((dg 2 (pr s) : Nat) : Int), .int .u64 ((dg 3 (pr s) : Nat) : Int)]) hk hs rfl rfl rfl ty50 rfl rfl rfl rfl rfl rfl fun w hs => ?_
  refine (c_end (x_t ?_))
  refine wpIn_seq ?_
  refine wpIn_seq ?_
  refine wpIn_region_lit ?_
  refine q_val hk (w_as rfl) rfl rfl rfl fun a hk => ?_
  refine (c_end (x_t ?_))
  refine wpIn_block ?_
  have hs := hs.row0 51 4
  refine c_loop (α := Nat) (fun k a w => ∃ (ao : Option Addr) (co : Nat), k ≤ N ∧ okB s (dv l) k = true ∧ Kn 83 [(7, .int .i64 ((6 + 32 * k : Nat) : Int)), (6, .pointer (some ⟨b2, 0, none⟩)), (5, .pointer (some ⟨b1_23, 0, none⟩)), (2, .pointer (some ⟨b1, 0, none⟩)), (0, .slice la n lc)] a ∧ Sat no W [row 51 4 (.slice ao k co) k (en vq (fun i => RR s (dv l i)) k), blk b2 [.int .u64 ((dg 0 (pr s) : Nat) : Int), .int .u64 ((dg 1 (pr s) : Nat) : Int), .int .u64 ((dg 2 (pr s) : Nat) : Int), .int .u64 ((dg 3 (pr s) : Nat) : Int)] 50, blk b1_23 [.int .i64 (((l.getD 1 0) : Nat) : Int), .int .i64 (((l.getD 2 0) : Nat) : Int), .int .i64 (((l.getD 3 0) : Nat) : Int), .int .i64 ((((l.getD 4 0) : Nat) : Int) + (256 * (((l.getD 5 0) : Nat) : Int))), .slice ao k co] 27, blk b1 [.int .i64 0, .int .i64 0, .int .i64 0, .int .i64 0, .slice none 0 0] 27] [lst 1 (.slice la n lc) n (el bc l)] w) (fun k => N - k) 0 ?_ ?_
  · exact ⟨_, _, (by omega), rfl, hk.k rfl (hk.k rfl (hk.k rfl (hk.k rfl (hk.k rfl hk.nil)))), hs⟩
  rintro k a w ⟨ao, co, hf0, hf1, hk, hs⟩
  refine wpIn_seq ?_
  refine wpIn_seq ?_
  refine wpIn_region_lit ?_
  refine q_val hk (w_mv rfl) rfl rfl rfl fun a hk => ?_
  refine q_val hk (w_mv rfl) rfl rfl rfl fun a hk => ?_
  refine q_val hk (w_len rfl Tryd.underlying29) rfl rfl rfl fun a hk => ?_
  refine q_val hk (w_sub rfl rfl (wr64 (by omega) (by omega))) rfl rfl rfl fun a hk => ?_
  rcases Classical.em (((6 + 32 * k : Nat) : Int) < (((n : Nat) : Int) - 32)) with hc3 | hc3
  · skip
    have hlt : k < N := by omega
    refine q_val hk (w_lt rfl rfl (decide_eq_true hc3)) rfl rfl rfl fun a hk => ?_
    refine (c_end (x_t ?_))
    refine c_T hk rfl ?_
    refine (wpIn_skip (x_t ?_))
    refine wpIn_seq ?_
    refine wpIn_block ?_
    refine wpIn_seq ?_
    rcases Classical.em (dv l k < pr s) with hc4 | hc4
    · skip
      have hp := hc4
      have hL := okL.cons (hs.mi 1 rfl) okL.nil
      refine d_begin _ 13 (by kernel_rfl) rfl hs hL fun w hs hL => ?_
      refine d_join (n2 := 2) 2047 (fun a w => ∃ (b2_10 : Nat), Kn 83 [(8, .pointer (some ⟨b2_10, 0, none⟩)), (58, .int .i64 0), (57, vec (dv l k)), (49, .tuple #[vec (dv l k), .int .i64 0]), (56, .tuple #[vec (dv l k), .int .i64 0]), (55, .slice (sla la lc (6 + 32 * k) 1) ((6 + 32 * k + 32) - (6 + 32 * k)) (lc - (6 + 32 * k))), (54, .int .i64 (((6 + 32 * k : Nat) : Int) + 32)), (53, .int .i64 ((6 + 32 * k : Nat) : Int)), (52, .int .i64 ((6 + 32 * k : Nat) : Int)), (51, .slice la n lc), (50, vec (pr s)), (46, .bool true), (45, .int .i64 (((n : Nat) : Int) - 32)), (44, .int .i64 ((n : Nat) : Int)), (43, .slice la n lc), (42, .int .i64 ((6 + 32 * k : Nat) : Int)), (7, .int .i64 ((6 + 32 * k : Nat) : Int)), (6, .pointer (some ⟨b2, 0, none⟩)), (5, .pointer (some ⟨b1_23, 0, none⟩)), (2, .pointer (some ⟨b1, 0, none⟩)), (0, .slice la n lc)] a ∧ Sat no W [blk b2_10 [.int .u64 0, .int .u64 0, .int .u64 0, .int .u64 0] 50, row 51 4 (.slice ao k co) k (en vq (fun i => RR s (dv l i)) k), blk b2 [.int .u64 ((dg 0 (pr s) : Nat) : Int), .int .u64 ((dg 1 (pr s) : Nat) : Int), .int .u64 ((dg 2 (pr s) : Nat) : Int), .int .u64 ((dg 3 (pr s) : Nat) : Int)] 50, blk b1_23 [.int .i64 (((l.getD 1 0) : Nat) : Int), .int .i64 (((l.getD 2 0) : Nat) : Int), .int .i64 (((l.getD 3 0) : Nat) : Int), .int .i64 ((((l.getD 4 0) : Nat) : Int) + (256 * (((l.getD 5 0) : Nat) : Int))), .slice ao k co] 27, blk b1 [.int .i64 0, .int .i64 0, .int .i64 0, .int .i64 0, .slice none 0 0] 27] [lst 1 (.slice la n lc) n (el bc l)] w ∧ okL [blk b2 [.int .u64 ((dg 0 (pr s) : Nat) : Int), .int .u64 ((dg 1 (pr s) : Nat) : Int), .int .u64 ((dg 2 (pr s) : Nat) : Int), .int .u64 ((dg 3 (pr s) : Nat) : Int)] 50] w) ?_ ?_
      · intro hJ2047
        refine d_v 0 1 hk hL rfl (by kernel_rfl) rfl rfl (fun w hL => w_ldv (z := pr s) rfl ty50 (.blk (n := 4) (hL.at 0 rfl) rfl)) fun a hk => ?_
        refine d_v 1 3 hk hL rfl (by kernel_rfl) rfl rfl (fun w hL => w_mv rfl) fun a hk => ?_
        refine d_v 2 7 hk hL rfl (by kernel_rfl) rfl rfl (fun w hL => w_mv rfl) fun a hk => ?_
        refine d_v 3 15 hk hL rfl (by kernel_rfl) rfl rfl (fun w hL => w_mv rfl) fun a hk => ?_
        refine d_v 4 31 hk hL rfl (by kernel_rfl) rfl rfl (fun w hL => w_add rfl rfl (wr64 (by omega) (by omega))) fun a hk => ?_
        refine d_v 5 63 hk hL rfl (by kernel_rfl) rfl rfl (fun w hL => w_slc (l := 6 + 32 * k) (h := (6 + 32 * k + 32)) rfl rfl rfl Tryd.underlying29 ty5 rfl rfl (by omega) (by omega) (by omega) (by omega) (by omega)) fun a hk => ?_
        refine d_2 6 10 127 1087 rfl rfl (by kernel_rfl) (fun K hK => ?_) (fun K hK => ?_)
        · skip
          refine q_call (caps := []) hk rfl rfl Tryd.func38 fo38 rfl rfl (refDecQ s la n lc k l _ (hs.ri 0 rfl) hl (by omega)) ?_
          rintro _ w ⟨he, hb⟩
          rw [if_pos hc4] at he
          subst he
          have hs := hs.below hb
          refine ⟨_, rfl, fun a hk => ?_⟩
          have hL := okL.cons (hs.mi 1 rfl) okL.nil
          refine c_end (x_t (hK _ _ hL ?_))
          clear hK K
          refine d_v 7 255 hk hL rfl (by kernel_rfl) rfl rfl (fun w hL => w_mv rfl) fun a hk => ?_
          refine d_v 8 511 hk hL rfl (by kernel_rfl) rfl rfl (fun w hL => w_ext rfl rfl) fun a hk => ?_
          refine d_v 9 1023 hk hL rfl (by kernel_rfl) rfl rfl (fun w hL => w_ext rfl rfl) fun a hk => ?_
          refine d_1 10 2047 rfl (by kernel_rfl) fun K hK => ?_
          refine q_alc (vs := [.int .u64 0, .int .u64 0, .int .u64 0, .int .u64 0]) hk hs zr50 rfl rfl rfl fun b2_10 w a hk hs => ?_
          have hL := okL.cons (hs.mi 2 rfl) okL.nil
          refine c_end (x_t (hK _ _ hL ?_))
          clear hK K
          have hL := okL.cons (hs.mi 2 rfl) okL.nil
          exact hJ2047 _ _ ⟨_, hk.k rfl (hk.k rfl (hk.k rfl (hk.k rfl (hk.k rfl (hk.k rfl (hk.k rfl (hk.k rfl (hk.k rfl (hk.k rfl (hk.k rfl (hk.k rfl (hk.k rfl (hk.k rfl (hk.k rfl (hk.k rfl (hk.k rfl (hk.k rfl (hk.k rfl (hk.k rfl (hk.k rfl hk.nil)))))))))))))))))))), hs, hL⟩
        · skip
          refine q_alc (vs := [.int .u64 0, .int .u64 0, .int .u64 0, .int .u64 0]) hk hs zr50 rfl rfl rfl fun b2_10 w a hk hs => ?_
          have hL := okL.cons (hs.mi 2 rfl) okL.nil
          refine c_end (x_t (hK _ _ hL ?_))
          clear hK K
          refine d_1 6 1151 rfl (by kernel_rfl) fun K hK => ?_
          refine q_call (caps := []) hk rfl rfl Tryd.func38 fo38 rfl rfl (refDecQ s la n lc k l _ (hs.ri 0 rfl) hl (by omega)) ?_
          rintro _ w ⟨he, hb⟩
          rw [if_pos hc4] at he
          subst he
          have hs := hs.below hb
          refine ⟨_, rfl, fun a hk => ?_⟩
          have hL := okL.cons (hs.mi 2 rfl) okL.nil
          refine c_end (x_t (hK _ _ hL ?_))
          clear hK K
          refine d_v 7 1279 hk hL rfl (by kernel_rfl) rfl rfl (fun w hL => w_mv rfl) fun a hk => ?_
          refine d_v 8 1535 hk hL rfl (by kernel_rfl) rfl rfl (fun w hL => w_ext rfl rfl) fun a hk => ?_
          refine d_v 9 2047 hk hL rfl (by kernel_rfl) rfl rfl (fun w hL => w_ext rfl rfl) fun a hk => ?_
          have hL := okL.cons (hs.mi 2 rfl) okL.nil
          exact hJ2047 _ _ ⟨_, hk.k rfl (hk.k rfl (hk.k rfl (hk.k rfl (hk.k rfl (hk.k rfl (hk.k rfl (hk.k rfl (hk.k rfl (hk.k rfl (hk.k rfl (hk.k rfl (hk.k rfl (hk.k rfl (hk.k rfl (hk.k rfl (hk.k rfl (hk.k rfl (hk.k rfl (hk.k rfl (hk.k rfl hk.nil)))))))))))))))))))), hs, hL⟩
      · rintro a w ⟨b2_10, hk, hs, hL⟩
        refine d_1 11 4095 rfl (by kernel_rfl) fun K hK => ?_
        refine q_sto (o := 0) (cs := [.int .u64 ((dg 0 (dv l k) : Nat) : Int), .int .u64 ((dg 1 (dv l k) : Nat) : Int), .int .u64 ((dg 2 (dv l k) : Nat) : Int), .int .u64 ((dg 3 (dv l k) : Nat) : Int)]) (vs' := [.int .u64 ((dg 0 (dv l k) : Nat) : Int), .int .u64 ((dg 1 (dv l k) : Nat) : Int), .int .u64 ((dg 2 (dv l k) : Nat) : Int), .int .u64 ((dg 3 (dv l k) : Nat) : Int)]) hk hs rfl rfl rfl ty50 rfl rfl rfl rfl rfl rfl fun w hs => ?_
        have hL := okL.cons (hs.mi 2 rfl) okL.nil
        refine c_end (x_t (hK _ _ hL ?_))
        clear hK K
        refine d_v 12 8191 hk hL rfl (by kernel_rfl) rfl rfl (fun w hL => w_as rfl) fun a hk => ?_
        refine d_end (by kernel_rfl) ?_
        refine (x_t ?_)
        refine wpIn_seq ?_
        refine wpIn_seq ?_
        refine wpIn_region_lit ?_
        refine q_val hk (w_mv rfl) rfl rfl rfl fun a hk => ?_
        refine q_val hk (w_ne rfl rfl (decide_eq_false (by decide))) rfl rfl rfl fun a hk => ?_
        refine (c_end (x_t ?_))
        refine c_F hk rfl ?_
        refine (wpIn_skip (x_t ?_))
        have hL := okL.cons (hs.mi 2 rfl) (okL.cons (hs.mi 0 rfl) okL.nil)
        refine d_begin _ 9 (by kernel_rfl) rfl hs hL fun w hs hL => ?_
        refine d_join (n2 := 3) 63 (fun a w => ∃ (b3_5 : Nat), Kn 83 [(68, .slice (some ⟨b3_5, 0, none⟩) 1 1), (67, vec (RR s (dv l k))), (64, .slice ao k co), (66, vec (dv l k)), (65, vec (pr s)), (63, .pointer (some ⟨b1_23, 4, none⟩)), (60, .bool false), (59, .int .i64 0), (9, .int .i64 0), (8, .pointer (some ⟨b2_10, 0, none⟩)), (58, .int .i64 0), (57, vec (dv l k)), (49, .tuple #[vec (dv l k), .int .i64 0]), (56, .tuple #[vec (dv l k), .int .i64 0]), (55, .slice (sla la lc (6 + 32 * k) 1) ((6 + 32 * k + 32) - (6 + 32 * k)) (lc - (6 + 32 * k))), (54, .int .i64 (((6 + 32 * k : Nat) : Int) + 32)), (53, .int .i64 ((6 + 32 * k : Nat) : Int)), (52, .int .i64 ((6 + 32 * k : Nat) : Int)), (51, .slice la n lc), (50, vec (pr s)), (46, .bool true), (45, .int .i64 (((n : Nat) : Int) - 32)), (44, .int .i64 ((n : Nat) : Int)), (43, .slice la n lc), (42, .int .i64 ((6 + 32 * k : Nat) : Int)), (7, .int .i64 ((6 + 32 * k : Nat) : Int)), (6, .pointer (some ⟨b2, 0, none⟩)), (5, .pointer (some ⟨b1_23, 0, none⟩)), (2, .pointer (some ⟨b1, 0, none⟩)), (0, .slice la n lc)] a ∧ Sat no W [blk b3_5 [.int .u64 ((dg 0 (RR s (dv l k)) : Nat) : Int), .int .u64 ((dg 1 (RR s (dv l k)) : Nat) : Int), .int .u64 ((dg 2 (RR s (dv l k)) : Nat) : Int), .int .u64 ((dg 3 (RR s (dv l k)) : Nat) : Int)] 51, blk b2_10 [.int .u64 ((dg 0 (dv l k) : Nat) : Int), .int .u64 ((dg 1 (dv l k) : Nat) : Int), .int .u64 ((dg 2 (dv l k) : Nat) : Int), .int .u64 ((dg 3 (dv l k) : Nat) : Int)] 50, row 51 4 (.slice ao k co) k (en vq (fun i => RR s (dv l i)) k), blk b2 [.int .u64 ((dg 0 (pr s) : Nat) : Int), .int .u64 ((dg 1 (pr s) : Nat) : Int), .int .u64 ((dg 2 (pr s) : Nat) : Int), .int .u64 ((dg 3 (pr s) : Nat) : Int)] 50, blk b1_23 [.int .i64 (((l.getD 1 0) : Nat) : Int), .int .i64 (((l.getD 2 0) : Nat) : Int), .int .i64 (((l.getD 3 0) : Nat) : Int), .int .i64 ((((l.getD 4 0) : Nat) : Int) + (256 * (((l.getD 5 0) : Nat) : Int))), .slice ao k co] 27, blk b1 [.int .i64 0, .int .i64 0, .int .i64 0, .int .i64 0, .slice none 0 0] 27] [lst 1 (.slice la n lc) n (el bc l)] w ∧ okL [blk b2 [.int .u64 ((dg 0 (pr s) : Nat) : Int), .int .u64 ((dg 1 (pr s) : Nat) : Int), .int .u64 ((dg 2 (pr s) : Nat) : Int), .int .u64 ((dg 3 (pr s) : Nat) : Int)] 50, blk b2_10 [.int .u64 ((dg 0 (dv l k) : Nat) : Int), .int .u64 ((dg 1 (dv l k) : Nat) : Int), .int .u64 ((dg 2 (dv l k) : Nat) : Int), .int .u64 ((dg 3 (dv l k) : Nat) : Int)] 50] w) ?_ ?_
        · intro hJ63
          refine d_join (n2 := 4) 31 (fun a w => Kn 83 [(67, vec (RR s (dv l k))), (64, .slice ao k co), (66, vec (dv l k)), (65, vec (pr s)), (63, .pointer (some ⟨b1_23, 4, none⟩)), (60, .bool false), (59, .int .i64 0), (9, .int .i64 0), (8, .pointer (some ⟨b2_10, 0, none⟩)), (58, .int .i64 0), (57, vec (dv l k)), (49, .tuple #[vec (dv l k), .int .i64 0]), (56, .tuple #[vec (dv l k), .int .i64 0]), (55, .slice (sla la lc (6 + 32 * k) 1) ((6 + 32 * k + 32) - (6 + 32 * k)) (lc - (6 + 32 * k))), (54, .int .i64 (((6 + 32 * k : Nat) : Int) + 32)), (53, .int .i64 ((6 + 32 * k : Nat) : Int)), (52, .int .i64 ((6 + 32 * k : Nat) : Int)), (51, .slice la n lc), (50, vec (pr s)), (46, .bool true), (45, .int .i64 (((n : Nat) : Int) - 32)), (44, .int .i64 ((n : Nat) : Int)), (43, .slice la n lc), (42, .int .i64 ((6 + 32 * k : Nat) : Int)), (7, .int .i64 ((6 + 32 * k : Nat) : Int)), (6, .pointer (some ⟨b2, 0, none⟩)), (5, .pointer (some ⟨b1_23, 0, none⟩)), (2, .pointer (some ⟨b1, 0, none⟩)), (0, .slice la n lc)] a ∧ Sat no W [blk b2_10 [.int .u64 ((dg 0 (dv l k) : Nat) : Int), .int .u64 ((dg 1 (dv l k) : Nat) : Int), .int .u64 ((dg 2 (dv l k) : Nat) : Int), .int .u64 ((dg 3 (dv l k) : Nat) : Int)] 50, row 51 4 (.slice ao k co) k (en vq (fun i => RR s (dv l i)) k), blk b2 [.int .u64 ((dg 0 (pr s) : Nat) : Int), .int .u64 ((dg 1 (pr s) : Nat) : Int), .int .u64 ((dg 2 (pr s) : Nat) : Int), .int .u64 ((dg 3 (pr s) : Nat) : Int)] 50, blk b1_23 [.int .i64 (((l.getD 1 0) : Nat) : Int), .int .i64 (((l.getD 2 0) : Nat) : Int), .int .i64 (((l.getD 3 0) : Nat) : Int), .int .i64 ((((l.getD 4 0) : Nat) : Int) + (256 * (((l.getD 5 0) : Nat) : Int))), .slice ao k co] 27, blk b1 [.int .i64 0, .int .i64 0, .int .i64 0, .int .i64 0, .slice none 0 0] 27] [lst 1 (.slice la n lc) n (el bc l)] w ∧ okL [blk b2 [.int .u64 ((dg 0 (pr s) : Nat) : Int), .int .u64 ((dg 1 (pr s) : Nat) : Int), .int .u64 ((dg 2 (pr s) : Nat) : Int), .int .u64 ((dg 3 (pr s) : Nat) : Int)] 50, blk b2_10 [.int .u64 ((dg 0 (dv l k) : Nat) : Int), .int .u64 ((dg 1 (dv l k) : Nat) : Int), .int .u64 ((dg 2 (dv l k) : Nat) : Int), .int .u64 ((dg 3 (dv l k) : Nat) : Int)] 50] w) ?_ ?_
          · intro hJ31
            refine d_v 0 1 hk hL rfl (by kernel_rfl) rfl rfl (fun w hL => w_fa rfl fq27_4 ty25) fun a hk => ?_
            refine d_v 2 5 hk hL rfl (by kernel_rfl) rfl rfl (fun w hL => w_ldv (z := pr s) rfl ty50 (.blk (n := 4) (hL.at 0 rfl) rfl)) fun a hk => ?_
            refine d_v 3 13 hk hL rfl (by kernel_rfl) rfl rfl (fun w hL => w_ldv (z := dv l k) rfl ty50 (.blk (n := 4) (hL.at 1 rfl) rfl)) fun a hk => ?_
            refine d_2 1 4 15 29 rfl rfl (by kernel_rfl) (fun K hK => ?_) (fun K hK => ?_)
            · skip
              refine q_val hk (w_ld1 rfl ty25 (.blk (n := 1) (hs.mi 3 rfl) rfl)) rfl rfl rfl fun a hk => ?_
              have hL := okL.cons (hs.mi 2 rfl) (okL.cons (hs.mi 0 rfl) okL.nil)
              refine c_end (x_t (hK _ _ hL ?_))
              clear hK K
              refine d_1 4 31 rfl (by kernel_rfl) fun K hK => ?_
              refine q_call (caps := []) hk rfl rfl Tryd.func39 fo39 rfl rfl (refForm_eq s (dv l k) hp _) ?_
              rintro _ w ⟨rfl, hb⟩
              have hs := hs.below hb
              refine ⟨_, rfl, fun a hk => ?_⟩
              have hL := okL.cons (hs.mi 2 rfl) (okL.cons (hs.mi 0 rfl) okL.nil)
              refine c_end (x_t (hK _ _ hL ?_))
              clear hK K
              have hL := okL.cons (hs.mi 2 rfl) (okL.cons (hs.mi 0 rfl) okL.nil)
              exact hJ31 _ _ ⟨hk.k rfl (hk.k rfl (hk.k rfl (hk.k rfl (hk.k rfl (hk.k rfl (hk.k rfl (hk.k rfl (hk.k rfl (hk.k rfl (hk.k rfl (hk.k rfl (hk.k rfl (hk.k rfl (hk.k rfl (hk.k rfl (hk.k rfl (hk.k rfl (hk.k rfl (hk.k rfl (hk.k rfl (hk.k rfl (hk.k rfl (hk.k rfl (hk.k rfl (hk.k rfl (hk.k rfl (hk.k rfl (hk.k rfl hk.nil)))))))))))))))))))))))))))), hs, hL⟩
            · skip
              refine q_call (caps := []) hk rfl rfl Tryd.func39 fo39 rfl rfl (refForm_eq s (dv l k) hp _) ?_
              rintro _ w ⟨rfl, hb⟩
              have hs := hs.below hb
              refine ⟨_, rfl, fun a hk => ?_⟩
              have hL := okL.cons (hs.mi 2 rfl) (okL.cons (hs.mi 0 rfl) okL.nil)
              refine c_end (x_t (hK _ _ hL ?_))
              clear hK K
              refine d_2 1 5 31 61 rfl rfl (by kernel_rfl) (fun K hK => ?_) (fun K hK => ?_)
              · skip
                refine q_val hk (w_ld1 rfl ty25 (.blk (n := 1) (hs.mi 3 rfl) rfl)) rfl rfl rfl fun a hk => ?_
                have hL := okL.cons (hs.mi 2 rfl) (okL.cons (hs.mi 0 rfl) okL.nil)
                refine c_end (x_t (hK _ _ hL ?_))
                clear hK K
                have hL := okL.cons (hs.mi 2 rfl) (okL.cons (hs.mi 0 rfl) okL.nil)
                exact hJ31 _ _ ⟨hk.k rfl (hk.k rfl (hk.k rfl (hk.k rfl (hk.k rfl (hk.k rfl (hk.k rfl (hk.k rfl (hk.k rfl (hk.k rfl (hk.k rfl (hk.k rfl (hk.k rfl (hk.k rfl (hk.k rfl (hk.k rfl (hk.k rfl (hk.k rfl (hk.k rfl (hk.k rfl (hk.k rfl (hk.k rfl (hk.k rfl (hk.k rfl (hk.k rfl (hk.k rfl (hk.k rfl (hk.k rfl (hk.k rfl hk.nil)))))))))))))))))))))))))))), hs, hL⟩
              · skip
                refine q_bsl (els := [.tmp 67]) (cs := [.int .u64 ((dg 0 (RR s (dv l k)) : Nat) : Int), .int .u64 ((dg 1 (RR s (dv l k)) : Nat) : Int), .int .u64 ((dg 2 (RR s (dv l k)) : Nat) : Int), .int .u64 ((dg 3 (RR s (dv l k)) : Nat) : Int)]) hk hs rfl Tryd.underlying25 ty51 zr51 rfl rfl rfl rfl rfl rfl rfl fun b3_5 w a hk hs => ?_
                have hL := okL.cons (hs.mi 3 rfl) (okL.cons (hs.mi 1 rfl) okL.nil)
                refine c_end (x_t (hK _ _ hL ?_))
                clear hK K
                refine d_1 1 63 rfl (by kernel_rfl) fun K hK => ?_
                refine q_val hk (w_ld1 rfl ty25 (.blk (n := 1) (hs.mi 4 rfl) rfl)) rfl rfl rfl fun a hk => ?_
                have hL := okL.cons (hs.mi 3 rfl) (okL.cons (hs.mi 1 rfl) okL.nil)
                refine c_end (x_t (hK _ _ hL ?_))
                clear hK K
                have hL := okL.cons (hs.mi 3 rfl) (okL.cons (hs.mi 1 rfl) okL.nil)
                exact hJ63 _ _ ⟨_, hk.k rfl (hk.k rfl (hk.k rfl (hk.k rfl (hk.k rfl (hk.k rfl (hk.k rfl (hk.k rfl (hk.k rfl (hk.k rfl (hk.k rfl (hk.k rfl (hk.k rfl (hk.k rfl (hk.k rfl (hk.k rfl (hk.k rfl (hk.k rfl (hk.k rfl (hk.k rfl (hk.k rfl (hk.k rfl (hk.k rfl (hk.k rfl (hk.k rfl (hk.k rfl (hk.k rfl (hk.k rfl (hk.k rfl (hk.k rfl hk.nil))))))))))))))))))))))))))))), hs, hL⟩
          · rintro a w ⟨hk, hs, hL⟩
            refine d_1 5 63 rfl (by kernel_rfl) fun K hK => ?_
            refine q_bsl (els := [.tmp 67]) (cs := [.int .u64 ((dg 0 (RR s (dv l k)) : Nat) : Int), .int .u64 ((dg 1 (RR s (dv l k)) : Nat) : Int), .int .u64 ((dg 2 (RR s (dv l k)) : Nat) : Int), .int .u64 ((dg 3 (RR s (dv l k)) : Nat) : Int)]) hk hs rfl Tryd.underlying25 ty51 zr51 rfl rfl rfl rfl rfl rfl rfl fun b3_5 w a hk hs => ?_
            have hL := okL.cons (hs.mi 3 rfl) (okL.cons (hs.mi 1 rfl) okL.nil)
            refine c_end (x_t (hK _ _ hL ?_))
            clear hK K
            have hL := okL.cons (hs.mi 3 rfl) (okL.cons (hs.mi 1 rfl) okL.nil)
            exact hJ63 _ _ ⟨_, hk.k rfl (hk.k rfl (hk.k rfl (hk.k rfl (hk.k rfl (hk.k rfl (hk.k rfl (hk.k rfl (hk.k rfl (hk.k rfl (hk.k rfl (hk.k rfl (hk.k rfl (hk.k rfl (hk.k rfl (hk.k rfl (hk.k rfl (hk.k rfl (hk.k rfl (hk.k rfl (hk.k rfl (hk.k rfl (hk.k rfl (hk.k rfl (hk.k rfl (hk.k rfl (hk.k rfl (hk.k rfl (hk.k rfl (hk.k rfl hk.nil))))))))))))))))))))))))))))), hs, hL⟩
        · rintro a w ⟨b3_5, hk, hs, hL⟩
          refine d_1 6 127 rfl (by kernel_rfl) fun K hK => ?_
          have hs := hs.up2
          refine q_app (news := [.int .u64 ((dg 0 (RR s (dv l k)) : Nat) : Int), .int .u64 ((dg 1 (RR s (dv l k)) : Nat) : Int), .int .u64 ((dg 2 (RR s (dv l k)) : Nat) : Int), .int .u64 ((dg 3 (RR s (dv l k)) : Nat) : Int)]) (m := 1) hk hs rfl rfl Tryd.underlying25 ty51 zr51 rfl rfl (.blk (n := 4) (hs.mi 1 rfl) rfl) rfl rfl (by omega) (by omega) rfl rfl fun a3_6 c3_6b w a hk hs => ?_
          have hs := hs.up1
          have hs := hs.drop
          have hs := hs.rw0 (congrArg _ en_succ)
          have hL := okL.cons (hs.mi 2 rfl) (okL.cons (hs.mi 1 rfl) okL.nil)
          refine c_end (x_t (hK _ _ hL ?_))
          clear hK K
          refine d_v 7 255 hk hL rfl (by kernel_rfl) rfl rfl (fun w hL => w_fa rfl fq27_4 ty25) fun a hk => ?_
          refine d_1 8 511 rfl (by kernel_rfl) fun K hK => ?_
          have hs := hs.up3
          refine q_sto (o := 4) (cs := [.slice a3_6 (k + 1) c3_6b]) (vs' := [.int .i64 (((l.getD 1 0) : Nat) : Int), .int .i64 (((l.getD 2 0) : Nat) : Int), .int .i64 (((l.getD 3 0) : Nat) : Int), .int .i64 ((((l.getD 4 0) : Nat) : Int) + (256 * (((l.getD 5 0) : Nat) : Int))), .slice a3_6 (k + 1) c3_6b]) hk hs rfl rfl rfl ty25 rfl rfl rfl rfl rfl rfl fun w hs => ?_
          have hL := okL.cons (hs.mi 3 rfl) (okL.cons (hs.mi 2 rfl) okL.nil)
          refine c_end (x_t (hK _ _ hL ?_))
          clear hK K
          refine d_end (by kernel_rfl) ?_
          refine (x_b (x_t ?_))
          refine wpIn_region_lit ?_
          refine q_val hk (w_mv rfl) rfl rfl rfl fun a hk => ?_
          refine q_val hk (w_add rfl rfl (wr64 (by omega) (by omega))) rfl rfl rfl fun a hk => ?_
          refine q_val hk (w_as rfl) rfl rfl rfl fun a hk => ?_
          refine (c_end (x_t ?_))
          rw [show (((6 + 32 * k : Nat) : Int) + 32) = ((6 + 32 * (k + 1) : Nat) : Int) by omega] at hk
          have hs := hs.up2
          have hs := hs.drop
          have hs := hs.up3
          have hs := hs.up1
          have hs := hs.up3
          have hs := hs.up3
          exact ⟨k + 1, ⟨_, _, (by omega), (okB_more hf1 hp), hk.k rfl (hk.k rfl (hk.k rfl (hk.k rfl (hk.k rfl hk.nil)))), hs⟩, by omega⟩
    · skip
      have hL := okL.cons (hs.mi 1 rfl) okL.nil
      refine d_begin _ 13 (by kernel_rfl) rfl hs hL fun w hs hL => ?_
      refine d_join (n2 := 2) 2047 (fun a w => ∃ (b4_10 : Nat), Kn 83 [(8, .pointer (some ⟨b4_10, 0, none⟩)), (58, .int .i64 9), (57, vec 0), (49, .tuple #[vec 0, .int .i64 9]), (56, .tuple #[vec 0, .int .i64 9]), (55, .slice (sla la lc (6 + 32 * k) 1) ((6 + 32 * k + 32) - (6 + 32 * k)) (lc - (6 + 32 * k))), (54, .int .i64 (((6 + 32 * k : Nat) : Int) + 32)), (53, .int .i64 ((6 + 32 * k : Nat) : Int)), (52, .int .i64 ((6 + 32 * k : Nat) : Int)), (51, .slice la n lc), (50, vec (pr s)), (46, .bool true), (45, .int .i64 (((n : Nat) : Int) - 32)), (44, .int .i64 ((n : Nat) : Int)), (43, .slice la n lc), (42, .int .i64 ((6 + 32 * k : Nat) : Int)), (7, .int .i64 ((6 + 32 * k : Nat) : Int)), (6, .pointer (some ⟨b2, 0, none⟩)), (5, .pointer (some ⟨b1_23, 0, none⟩)), (2, .pointer (some ⟨b1, 0, none⟩)), (0, .slice la n lc)] a ∧ Sat no W [blk b4_10 [.int .u64 0, .int .u64 0, .int .u64 0, .int .u64 0] 50, row 51 4 (.slice ao k co) k (en vq (fun i => RR s (dv l i)) k), blk b2 [.int .u64 ((dg 0 (pr s) : Nat) : Int), .int .u64 ((dg 1 (pr s) : Nat) : Int), .int .u64 ((dg 2 (pr s) : Nat) : Int), .int .u64 ((dg 3 (pr s) : Nat) : Int)] 50, blk b1_23 [.int .i64 (((l.getD 1 0) : Nat) : Int), .int .i64 (((l.getD 2 0) : Nat) : Int), .int .i64 (((l.getD 3 0) : Nat) : Int), .int .i64 ((((l.getD 4 0) : Nat) : Int) + (256 * (((l.getD 5 0) : Nat) : Int))), .slice ao k co] 27, blk b1 [.int .i64 0, .int .i64 0, .int .i64 0, .int .i64 0, .slice none 0 0] 27] [lst 1 (.slice la n lc) n (el bc l)] w ∧ okL [blk b2 [.int .u64 ((dg 0 (pr s) : Nat) : Int), .int .u64 ((dg 1 (pr s) : Nat) : Int), .int .u64 ((dg 2 (pr s) : Nat) : Int), .int .u64 ((dg 3 (pr s) : Nat) : Int)] 50] w) ?_ ?_
      · intro hJ2047
        refine d_v 0 1 hk hL rfl (by kernel_rfl) rfl rfl (fun w hL => w_ldv (z := pr s) rfl ty50 (.blk (n := 4) (hL.at 0 rfl) rfl)) fun a hk => ?_
        refine d_v 1 3 hk hL rfl (by kernel_rfl) rfl rfl (fun w hL => w_mv rfl) fun a hk => ?_
        refine d_v 2 7 hk hL rfl (by kernel_rfl) rfl rfl (fun w hL => w_mv rfl) fun a hk => ?_
        refine d_v 3 15 hk hL rfl (by kernel_rfl) rfl rfl (fun w hL => w_mv rfl) fun a hk => ?_
        refine d_v 4 31 hk hL rfl (by kernel_rfl) rfl rfl (fun w hL => w_add rfl rfl (wr64 (by omega) (by omega))) fun a hk => ?_
        refine d_v 5 63 hk hL rfl (by kernel_rfl) rfl rfl (fun w hL => w_slc (l := 6 + 32 * k) (h := (6 + 32 * k + 32)) rfl rfl rfl Tryd.underlying29 ty5 rfl rfl (by omega) (by omega) (by omega) (by omega) (by omega)) fun a hk => ?_
        refine d_2 6 10 127 1087 rfl rfl (by kernel_rfl) (fun K hK => ?_) (fun K hK => ?_)
        · skip
          refine q_call (caps := []) hk rfl rfl Tryd.func38 fo38 rfl rfl (refDecQ s la n lc k l _ (hs.ri 0 rfl) hl (by omega)) ?_
          rintro _ w ⟨he, hb⟩
          rw [if_neg hc4] at he
          subst he
          have hs := hs.below hb
          refine ⟨_, rfl, fun a hk => ?_⟩
          have hL := okL.cons (hs.mi 1 rfl) okL.nil
          refine c_end (x_t (hK _ _ hL ?_))
          clear hK K
          refine d_v 7 255 hk hL rfl (by kernel_rfl) rfl rfl (fun w hL => w_mv rfl) fun a hk => ?_
          refine d_v 8 511 hk hL rfl (by kernel_rfl) rfl rfl (fun w hL => w_ext rfl rfl) fun a hk => ?_
          refine d_v 9 1023 hk hL rfl (by kernel_rfl) rfl rfl (fun w hL => w_ext rfl rfl) fun a hk => ?_
          refine d_1 10 2047 rfl (by kernel_rfl) fun K hK => ?_
          refine q_alc (vs := [.int .u64 0, .int .u64 0, .int .u64 0, .int .u64 0]) hk hs zr50 rfl rfl rfl fun b4_10 w a hk hs => ?_
          have hL := okL.cons (hs.mi 2 rfl) okL.nil
          refine c_end (x_t (hK _ _ hL ?_))
          clear hK K
          have hL := okL.cons (hs.mi 2 rfl) okL.nil
          exact hJ2047 _ _ ⟨_, hk.k rfl (hk.k rfl (hk.k rfl (hk.k rfl (hk.k rfl (hk.k rfl (hk.k rfl (hk.k rfl (hk.k rfl (hk.k rfl (hk.k rfl (hk.k rfl (hk.k rfl (hk.k rfl (hk.k rfl (hk.k rfl (hk.k rfl (hk.k rfl (hk.k rfl (hk.k rfl (hk.k rfl hk.nil)))))))))))))))))))), hs, hL⟩
        · skip
          refine q_alc (vs := [.int .u64 0, .int .u64 0, .int .u64 0, .int .u64 0]) hk hs zr50 rfl rfl rfl fun b4_10 w a hk hs => ?_
          have hL := okL.cons (hs.mi 2 rfl) okL.nil
          refine c_end (x_t (hK _ _ hL ?_))
          clear hK K
          refine d_1 6 1151 rfl (by kernel_rfl) fun K hK => ?_
          refine q_call (caps := []) hk rfl rfl Tryd.func38 fo38 rfl rfl (refDecQ s la n lc k l _ (hs.ri 0 rfl) hl (by omega)) ?_
          rintro _ w ⟨he, hb⟩
          rw [if_neg hc4] at he
          subst he
          have hs := hs.below hb
          refine ⟨_, rfl, fun a hk => ?_⟩
          have hL := okL.cons (hs.mi 2 rfl) okL.nil
          refine c_end (x_t (hK _ _ hL ?_))
          clear hK K
          refine d_v 7 1279 hk hL rfl (by kernel_rfl) rfl rfl (fun w hL => w_mv rfl) fun a hk => ?_
          refine d_v 8 1535 hk hL rfl (by kernel_rfl) rfl rfl (fun w hL => w_ext rfl rfl) fun a hk => ?_
          refine d_v 9 2047 hk hL rfl (by kernel_rfl) rfl rfl (fun w hL => w_ext rfl rfl) fun a hk => ?_
          have hL := okL.cons (hs.mi 2 rfl) okL.nil
          exact hJ2047 _ _ ⟨_, hk.k rfl (hk.k rfl (hk.k rfl (hk.k rfl (hk.k rfl (hk.k rfl (hk.k rfl (hk.k rfl (hk.k rfl (hk.k rfl (hk.k rfl (hk.k rfl (hk.k rfl (hk.k rfl (hk.k rfl (hk.k rfl (hk.k rfl (hk.k rfl (hk.k rfl (hk.k rfl (hk.k rfl hk.nil)))))))))))))))))))), hs, hL⟩
      · rintro a w ⟨b4_10, hk, hs, hL⟩
        refine d_1 11 4095 rfl (by kernel_rfl) fun K hK => ?_
        refine q_sto (o := 0) (cs := [.int .u64 ((dg 0 0 : Nat) : Int), .int .u64 ((dg 1 0 : Nat) : Int), .int .u64 ((dg 2 0 : Nat) : Int), .int .u64 ((dg 3 0 : Nat) : Int)]) (vs' := [.int .u64 ((dg 0 0 : Nat) : Int), .int .u64 ((dg 1 0 : Nat) : Int), .int .u64 ((dg 2 0 : Nat) : Int), .int .u64 ((dg 3 0 : Nat) : Int)]) hk hs rfl rfl rfl ty50 rfl rfl rfl rfl rfl rfl fun w hs => ?_
        have hL := okL.cons (hs.mi 2 rfl) okL.nil
        refine c_end (x_t (hK _ _ hL ?_))
        clear hK K
        refine d_v 12 8191 hk hL rfl (by kernel_rfl) rfl rfl (fun w hL => w_as rfl) fun a hk => ?_
        refine d_end (by kernel_rfl) ?_
        refine (x_t ?_)
        refine wpIn_seq ?_
        refine wpIn_seq ?_
        refine wpIn_region_lit ?_
        refine q_val hk (w_mv rfl) rfl rfl rfl fun a hk => ?_
        refine q_val hk (w_ne rfl rfl (decide_eq_true (by decide))) rfl rfl rfl fun a hk => ?_
        refine (c_end (x_t ?_))
        refine c_T hk rfl ?_
        refine wpIn_seq ?_
        refine wpIn_region_lit ?_
        refine q_val hk (w_bld rfl fl27 zr27 rfl rfl) rfl rfl rfl fun a hk => ?_
        refine q_val hk (w_mv rfl) rfl rfl rfl fun a hk => ?_
        have hs := hs.up4
        refine q_sto (o := 0) (cs := [.int .i64 0, .int .i64 0, .int .i64 0, .int .i64 0, .slice none 0 0]) (vs' := [.int .i64 0, .int .i64 0, .int .i64 0, .int .i64 0, .slice none 0 0]) hk hs rfl rfl rfl ty27 rfl rfl rfl rfl rfl rfl fun w hs => ?_
        refine q_val hk (w_as rfl) rfl rfl rfl fun a hk => ?_
        refine (c_end (x_t ?_))
        refine (wpIn_ret (x_tr (x_br (x_tr (x_tr (x_br (x_tr ?_)))))))
        refine c_retG (vs := [.agg #[.int .i64 0, .int .i64 0, .int .i64 0, .int .i64 0, .slice none 0 0], .int .i64 9]) hk rfl ⟨⟨_, rfl, lv_A ty27 (.blk (n := 5) (hs.mi 0 rfl) rfl) rfl⟩, rfl, trivial⟩ rfl ?_
        exact DQ.bad hs.toBelow (dErr_nine h0 hS hN hlt hc4) (by decide)
  · skip
    obtain rfl : N = k := by omega
    refine q_val hk (w_lt rfl rfl (decide_eq_false hc3)) rfl rfl rfl fun a hk => ?_
    refine (c_end (x_t ?_))
    refine c_F hk rfl ?_
    refine (wpIn_exit (x_te (x_te (x_be ?_))))
    refine (x_t ?_)
    refine wpIn_seq ?_
    refine wpIn_seq ?_
    rcases Classical.em ((l.take (n - 32) ++ shaL (l.take (n - 32))) ≠ l) with hc5 | hc5
    · skip
      have hL := okL.cons (hs.ri 0 rfl) okL.nil
      refine d_begin _ 10 (by kernel_rfl) rfl hs hL fun w hs hL => ?_
      refine d_v 0 1 hk hL rfl (by kernel_rfl) rfl rfl (fun w hL => w_mv rfl) fun a hk => ?_
      refine d_v 1 3 hk hL rfl (by kernel_rfl) rfl rfl (fun w hL => w_mv rfl) fun a hk => ?_
      refine d_v 2 7 hk hL rfl (by kernel_rfl) rfl rfl (fun w hL => w_len rfl Tryd.underlying29) fun a hk => ?_
      refine d_v 3 15 hk hL rfl (by kernel_rfl) rfl rfl (fun w hL => w_sub rfl rfl (wr64 (by omega) (by omega))) fun a hk => ?_
      refine d_v 4 31 hk hL rfl (by kernel_rfl) rfl rfl (fun w hL => w_slc (l := 0) (h := (n - 32)) rfl rfl rfl Tryd.underlying29 ty5 rfl rfl (by omega) (by omega) (by omega) (by omega) (by omega)) fun a hk => ?_
      refine d_v 7 159 hk hL rfl (by kernel_rfl) rfl rfl (fun w hL => w_mv rfl) fun a hk => ?_
      refine d_v 8 415 hk hL rfl (by kernel_rfl) rfl rfl (fun w hL => w_cvB rfl (hL.at 0 rfl) Tryd.underlying29 Tryd.underlying5 Tryd.underlying9) fun a hk => ?_
      refine d_1 5 447 rfl (by kernel_rfl) fun K hK => ?_
      refine q_call (caps := []) hk rfl rfl Tryd.func34 fo34 rfl rfl (refTagged_c _ (n - 32) _ (l.take (n - 32)) _ (subB (l := 0) (h := (n - 32)) (m := lc) (hs.ri 0 rfl) (by omega) (by omega) (by omega) (by omega)) (take_lt hl _) (by omega)) ?_
      rintro _ w ⟨a5_5, c5_5b, rfl, hS⟩
      have hs := hs.call1 hS
      clear hS
      refine ⟨_, rfl, fun a hk => ?_⟩
      have hL := okL.cons (hs.ri 0 rfl) okL.nil
      refine c_end (x_t (hK _ _ hL ?_))
      clear hK K
      refine d_1 6 511 rfl (by kernel_rfl) fun K hK => ?_
      refine q_val hk (w_cvB rfl (row_lst (hs.mi 0 rfl)) Tryd.underlying29 Tryd.underlying5 Tryd.underlying9) rfl rfl rfl fun a hk => ?_
      have hL := okL.cons (hs.ri 0 rfl) okL.nil
      refine c_end (x_t (hK _ _ hL ?_))
      clear hK K
      refine d_v 9 1023 hk hL rfl (by kernel_rfl) rfl rfl (fun w hL => w_sne rfl rfl (tagd_lt hl) hl (decide_eq_true hc5)) fun a hk => ?_
      refine d_end (by kernel_rfl) ?_
      refine (x_t ?_)
      refine c_T hk rfl ?_
      refine wpIn_seq ?_
      refine wpIn_region_lit ?_
      refine q_val hk (w_bld rfl fl27 zr27 rfl rfl) rfl rfl rfl fun a hk => ?_
      have hs := hs.up4
      refine q_sto (o := 0) (cs := [.int .i64 0, .int .i64 0, .int .i64 0, .int .i64 0, .slice none 0 0]) (vs' := [.int .i64 0, .int .i64 0, .int .i64 0, .int .i64 0, .slice none 0 0]) hk hs rfl rfl rfl ty27 rfl rfl rfl rfl rfl rfl fun w hs => ?_
      refine q_val hk (w_as rfl) rfl rfl rfl fun a hk => ?_
      refine (c_end (x_t ?_))
      refine (wpIn_ret (x_tr ?_))
      refine c_retG (vs := [.agg #[.int .i64 0, .int .i64 0, .int .i64 0, .int .i64 0, .slice none 0 0], .int .i64 13]) hk rfl ⟨⟨_, rfl, lv_A ty27 (.blk (n := 5) (hs.mi 0 rfl) rfl) rfl⟩, rfl, trivial⟩ rfl ?_
      exact DQ.bad hs.toBelow (by rw [dErr_tag h0 hS hN hf1, if_neg ((tag_iff hlen (by omega)).1 hc5)]) (by decide)
    · skip
      have hL := okL.cons (hs.ri 0 rfl) okL.nil
      refine d_begin _ 10 (by kernel_rfl) rfl hs hL fun w hs hL => ?_
      refine d_v 0 1 hk hL rfl (by kernel_rfl) rfl rfl (fun w hL => w_mv rfl) fun a hk => ?_
      refine d_v 1 3 hk hL rfl (by kernel_rfl) rfl rfl (fun w hL => w_mv rfl) fun a hk => ?_
      refine d_v 2 7 hk hL rfl (by kernel_rfl) rfl rfl (fun w hL => w_len rfl Tryd.underlying29) fun a hk => ?_
      refine d_v 3 15 hk hL rfl (by kernel_rfl) rfl rfl (fun w hL => w_sub rfl rfl (wr64 (by omega) (by omega))) fun a hk => ?_
      refine d_v 4 31 hk hL rfl (by kernel_rfl) rfl rfl (fun w hL => w_slc (l := 0) (h := (n - 32)) rfl rfl rfl Tryd.underlying29 ty5 rfl rfl (by omega) (by omega) (by omega) (by omega) (by omega)) fun a hk => ?_
      refine d_v 7 159 hk hL rfl (by kernel_rfl) rfl rfl (fun w hL => w_mv rfl) fun a hk => ?_
      refine d_v 8 415 hk hL rfl (by kernel_rfl) rfl rfl (fun w hL => w_cvB rfl (hL.at 0 rfl) Tryd.underlying29 Tryd.underlying5 Tryd.underlying9) fun a hk => ?_
      refine d_1 5 447 rfl (by kernel_rfl) fun K hK => ?_
      refine q_call (caps := []) hk rfl rfl Tryd.func34 fo34 rfl rfl (refTagged_c _ (n - 32) _ (l.take (n - 32)) _ (subB (l := 0) (h := (n - 32)) (m := lc) (hs.ri 0 rfl) (by omega) (by omega) (by omega) (by omega)) (take_lt hl _) (by omega)) ?_
      rintro _ w ⟨a6_5, c6_5b, rfl, hS⟩
      have hs := hs.call1 hS
      clear hS
      refine ⟨_, rfl, fun a hk => ?_⟩
      have hL := okL.cons (hs.ri 0 rfl) okL.nil
      refine c_end (x_t (hK _ _ hL ?_))
      clear hK K
      refine d_1 6 511 rfl (by kernel_rfl) fun K hK => ?_
      refine q_val hk (w_cvB rfl (row_lst (hs.mi 0 rfl)) Tryd.underlying29 Tryd.underlying5 Tryd.underlying9) rfl rfl rfl fun a hk => ?_
      have hL := okL.cons (hs.ri 0 rfl) okL.nil
      refine c_end (x_t (hK _ _ hL ?_))
      clear hK K
      refine d_v 9 1023 hk hL rfl (by kernel_rfl) rfl rfl (fun w hL => w_sne rfl rfl (tagd_lt hl) hl (decide_eq_false hc5)) fun a hk => ?_
      refine d_end (by kernel_rfl) ?_
      refine (x_t ?_)
      refine c_F hk rfl ?_
      refine (wpIn_skip (x_t ?_))
      refine wpIn_seq ?_
      refine wpIn_region_lit ?_
      refine q_val hk (w_ldA rfl ty27 (.blk (n := 5) (hs.mi 3 rfl) rfl) rfl) rfl rfl rfl fun a hk => ?_
      have hs := hs.up4
      refine q_sto (o := 0) (cs := [.int .i64 (((l.getD 1 0) : Nat) : Int), .int .i64 (((l.getD 2 0) : Nat) : Int), .int .i64 (((l.getD 3 0) : Nat) : Int), .int .i64 ((((l.getD 4 0) : Nat) : Int) + (256 * (((l.getD 5 0) : Nat) : Int))), .slice ao N co]) (vs' := [.int .i64 (((l.getD 1 0) : Nat) : Int), .int .i64 (((l.getD 2 0) : Nat) : Int), .int .i64 (((l.getD 3 0) : Nat) : Int), .int .i64 ((((l.getD 4 0) : Nat) : Int) + (256 * (((l.getD 5 0) : Nat) : Int))), .slice ao N co]) hk hs rfl rfl rfl ty27 rfl rfl rfl rfl rfl rfl fun w hs => ?_
      refine q_val hk (w_as rfl) rfl rfl rfl fun a hk => ?_
      refine (c_end (x_t ?_))
      refine (wpIn_ret ?_)
      refine c_retG (vs := [.agg #[.int .i64 (((l.getD 1 0) : Nat) : Int), .int .i64 (((l.getD 2 0) : Nat) : Int), .int .i64 (((l.getD 3 0) : Nat) : Int), .int .i64 ((((l.getD 4 0) : Nat) : Int) + (256 * (((l.getD 5 0) : Nat) : Int))), .slice ao N co], .int .i64 0]) hk rfl ⟨⟨_, rfl, lv_A ty27 (.blk (n := 5) (hs.mi 0 rfl) rfl) rfl⟩, rfl, trivial⟩ rfl ?_
      have hs := hs.drop
      have hs := hs.drop
      have hs := hs.up1
      have hs := hs.drop
      have hs := hs.up1
      have hs := hs.drop
      have ht : tagOk n l = true := Classical.byContradiction fun h => hc5 ((tag_iff hlen (by omega)).2 h)
      have he : dErr n l = 0 := by rw [dErr_tag h0 hS hN hf1, if_pos ht]
      subst hN
      subst hS
      exact DQ.good he hs.fin
theorem refDec_c (la : Option Addr) (n lc : Nat) (l : List Nat) (W : World) (H : LstAt W 1 (.slice la n lc) n (el bc l)) (hl : ∀ x ∈ l, x < 256) (hn : n ≤ 100000) : Calls Tryd.prog 17 #[.slice la n lc] W (DQ W n l) := by
  by_cases h0 : dHead n l = 0
  · exact refDec_ok _ la n lc l W H hl hn h0 rfl
  · exact refDec_bad la n lc l W H hl hn h0
theorem or_head {a b : Nat} (ha : a < 256) (hb : b < 256) : bits .or .i64 (a : Int) ((b : Int) * 256) = (a : Int) + (256 * (b : Int)) := by
  have e : ((b : Int) * 256) = ((b * 256 : Nat) : Int) := by omega
  rw [e]
  show IntKind.i64.wrap ((BitVec.ofInt 64 (a : Int) ||| BitVec.ofInt 64 ((b * 256 : Nat) : Int)).toNat : Int) = _
  have e1 : (BitVec.ofInt 64 (a : Int)).toNat = a := by rw [BitVec.ofInt_natCast, BitVec.toNat_ofNat, Nat.mod_eq_of_lt (by omega)]
  have e2 : (BitVec.ofInt 64 ((b * 256 : Nat) : Int)).toNat = b * 256 := by rw [BitVec.ofInt_natCast, BitVec.toNat_ofNat, Nat.mod_eq_of_lt (by omega)]
  rw [BitVec.toNat_or, e1, e2]
  have e3 : a ||| b * 256 = a + 256 * b := by
    have := Nat.two_pow_add_eq_or_of_lt (i := 8) (b := a) (by omega) b
    rw [Nat.or_comm, show b * 256 = 2 ^ 8 * b by omega, ← this]; omega
  rw [e3]
  exact wr64 (by omega) (by omega)
theorem sameTag_t (la : Option Addr) (n lc : Nat) (l : List Nat) (W : World) (H : LstAt W 1 (.slice la n lc) n (el bc l)) (hl : ∀ x ∈ l, x < 256) (hn : n ≤ 100000) (h32 : 32 ≤ n) (HL : Sh.Laid W) (h : tagOk n l = true) : Calls Tryd.prog 36 #[.slice la n lc] W fun e w => e = .returned (.bool true) ∧ Below W.heap.size W w := by
  have := sameTag_c la n lc l W H hl hn h32 HL
  rwa [h] at this
theorem sameTag_f (la : Option Addr) (n lc : Nat) (l : List Nat) (W : World) (H : LstAt W 1 (.slice la n lc) n (el bc l)) (hl : ∀ x ∈ l, x < 256) (hn : n ≤ 100000) (h32 : 32 ≤ n) (HL : Sh.Laid W) (h : ¬ tagOk n l = true) : Calls Tryd.prog 36 #[.slice la n lc] W fun e w => e = .returned (.bool false) ∧ Below W.heap.size W w := by
  have := sameTag_c la n lc l W H hl hn h32 HL
  rwa [Bool.eq_false_iff.2 h] at this
theorem recDec_s (s : Bool) (la : Option Addr) (n lc : Nat) (l : List Nat) (W : World) (H : LstAt W 1 (.slice la n lc) n (el bc l)) (hl : ∀ x ∈ l, x < 256) (hn : n ≤ 100000) (HL : Laid W) (HS : Sh.Laid W) (hS : dS l = s) : Calls Tryd.prog 16 [.slice la n lc].toArray W fun e w => DQ W n l e w := by
  have hlen := lst_num H
  have hcap := lst_cap H
  have hcn := cn_small (dL l)
  have g0 := getD_lt hl 0
  have g1 := getD_lt hl 1
  have g2 := getD_lt hl 2
  have g3 := getD_lt hl 3
  have g4 := getD_lt hl 4
  have g5 := getD_lt hl 5
  refine c_enter (args := [.slice la n lc]) Tryd.func16 rfl rfl rfl fun a hk => ?_
  have hs := Sat.start W [lst 1 (.slice la n lc) n (el bc l)] (okr1 H)
  refine wpIn_seq ?_
  refine wpIn_region_lit ?_
  refine q_alc (vs := [.int .i64 0, .int .i64 0, .int .i64 0, .int .i64 0, .slice none 0 0]) hk hs zr27 rfl rfl rfl fun b1 w a hk hs => ?_
  refine q_val hk (w_as rfl) rfl rfl rfl fun a hk => ?_
  refine (c_end (x_t ?_))
  refine c_scope (α := Nat) (fun k a w => ∃ (ao : Option Addr) (co : Nat) (b3 : Nat) (b2 : Nat), dHead n l = 0 ∧ k ≤ cn (dL l) ∧ okB s (dv l) k = true ∧ Kn 94 [(7, .int .i64 ((6 + 32 * k : Nat) : Int)), (6, .pointer (some ⟨b3, 0, none⟩)), (4, .pointer (some ⟨b2, 0, none⟩)), (2, .pointer (some ⟨b1, 0, none⟩)), (0, .slice la n lc)] a ∧ Sat no W [row 51 4 (.slice ao k co) k (en vq (fun i => RR s (dv l i)) k), blk b3 (fieldL s) 53, blk b2 [.int .i64 (((l.getD 1 0) : Nat) : Int), .int .i64 (((l.getD 2 0) : Nat) : Int), .int .i64 (((l.getD 3 0) : Nat) : Int), .int .i64 ((((l.getD 4 0) : Nat) : Int) + (256 * (((l.getD 5 0) : Nat) : Int))), .slice ao k co] 27, blk b1 [.int .i64 0, .int .i64 0, .int .i64 0, .int .i64 0, .slice none 0 0] 27] [lst 1 (.slice la n lc) n (el bc l)] w) (fun k => cn (dL l) - k) (fun a w => ∃ (x0 : Int), dErr n l = x0 ∧ x0 ≠ 0 ∧ Kn 94 [(5, .int .i64 x0), (2, .pointer (some ⟨b1, 0, none⟩))] a ∧ Sat no W [blk b1 [.int .i64 0, .int .i64 0, .int .i64 0, .int .i64 0, .slice none 0 0] 27] [lst 1 (.slice la n lc) n (el bc l)] w) rfl rfl ?_ ?_ ?_
  · skip
    rintro a w ⟨x0, hf0, hf1, hk, hs⟩
    refine wpIn_seq ?_
    refine wpIn_region_lit ?_
    refine q_val hk (w_bld rfl fl27 zr27 rfl rfl) rfl rfl rfl fun a hk => ?_
    refine q_val hk (w_mv rfl) rfl rfl rfl fun a hk => ?_
    refine q_sto (o := 0) (cs := [.int .i64 0, .int .i64 0, .int .i64 0, .int .i64 0, .slice none 0 0]) (vs' := [.int .i64 0, .int .i64 0, .int .i64 0, .int .i64 0, .slice none 0 0]) hk hs rfl rfl rfl ty27 rfl rfl rfl rfl rfl rfl fun w hs => ?_
    refine q_val hk (w_as rfl) rfl rfl rfl fun a hk => ?_
    refine (c_end (x_t ?_))
    refine (wpIn_ret (x_jr ?_))
    refine c_retG (vs := [.agg #[.int .i64 0, .int .i64 0, .int .i64 0, .int .i64 0, .slice none 0 0], .int .i64 x0]) hk rfl ⟨⟨_, rfl, lv_A ty27 (.blk (n := 5) (hs.mi 0 rfl) rfl) rfl⟩, rfl, trivial⟩ rfl ?_
    exact DQ.bad hs.toBelow hf0 hf1
  · skip
    rintro H0 k a w ⟨ao, co, b3, b2, hf0, hf1, hf2, hk, hs⟩
    obtain ⟨h38, hb0, hb1, hb2, hb3, hn2, hL0, hL1⟩ := dHead_zero hf0
    refine wpIn_seq ?_
    refine wpIn_seq ?_
    refine wpIn_region_lit ?_
    refine q_val hk (w_mv rfl) rfl rfl rfl fun a hk => ?_
    refine q_val hk (w_mv rfl) rfl rfl rfl fun a hk => ?_
    refine q_val hk (w_len rfl Tryd.underlying29) rfl rfl rfl fun a hk => ?_
    refine q_val hk (w_sub rfl rfl (wr64 (by omega) (by omega))) rfl rfl rfl fun a hk => ?_
    rcases Classical.em (((6 + 32 * k : Nat) : Int) < (((n : Nat) : Int) - 32)) with hc10 | hc10
    · skip
      have hlt : k < cn (dL l) := by omega
      refine q_val hk (w_lt rfl rfl (decide_eq_true hc10)) rfl rfl rfl fun a hk => ?_
      refine (c_end (x_t ?_))
      refine c_T hk rfl ?_
      refine wpIn_seq ?_
      refine wpIn_region_lit ?_
      refine q_alc (vs := [.int .u64 0, .int .u64 0, .int .u64 0, .int .u64 0]) hk hs zr51 rfl rfl rfl fun b11 w a hk hs => ?_
      refine (c_end (x_t ?_))
      refine wpIn_seq ?_
      refine wpIn_seq ?_
      rcases Classical.em (dv l k < pr s) with hc12 | hc12
      · skip
        have hp := hc12
        have hL := okL.cons (hs.mi 2 rfl) okL.nil
        refine d_begin _ 12 (by kernel_rfl) rfl hs hL fun w hs hL => ?_
        refine d_v 0 1 hk hL rfl (by kernel_rfl) rfl rfl (fun w hL => w_ldA rfl ty53 (.blk (n := 14) (hL.at 0 rfl) rfl) rfl) fun a hk => ?_
        refine d_v 1 3 hk hL rfl (by kernel_rfl) rfl rfl (fun w hL => w_mv rfl) fun a hk => ?_
        refine d_v 2 7 hk hL rfl (by kernel_rfl) rfl rfl (fun w hL => w_mv rfl) fun a hk => ?_
        refine d_v 3 15 hk hL rfl (by kernel_rfl) rfl rfl (fun w hL => w_mv rfl) fun a hk => ?_
        refine d_v 4 31 hk hL rfl (by kernel_rfl) rfl rfl (fun w hL => w_add rfl rfl (wr64 (by omega) (by omega))) fun a hk => ?_
        refine d_v 5 63 hk hL rfl (by kernel_rfl) rfl rfl (fun w hL => w_slc (l := 6 + 32 * k) (h := (6 + 32 * k + 32)) rfl rfl rfl Tryd.underlying29 ty5 rfl rfl (by omega) (by omega) (by omega) (by omega) (by omega)) fun a hk => ?_
        refine d_1 6 127 rfl (by kernel_rfl) fun K hK => ?_
        refine q_call (caps := []) hk rfl rfl Tryd.func35 fo35 rfl rfl (decQ s la n lc k l _ (hs.ri 0 rfl) hl (by omega)) ?_
        rintro _ w ⟨he, hb⟩
        rw [if_pos hc12] at he
        subst he
        have hs := hs.below hb
        refine ⟨_, rfl, fun a hk => ?_⟩
        have hL := okL.cons (hs.mi 2 rfl) okL.nil
        refine c_end (x_t (hK _ _ hL ?_))
        clear hK K
        refine d_v 7 255 hk hL rfl (by kernel_rfl) rfl rfl (fun w hL => w_mv rfl) fun a hk => ?_
        refine d_v 8 511 hk hL rfl (by kernel_rfl) rfl rfl (fun w hL => w_ext rfl rfl) fun a hk => ?_
        refine d_v 9 1023 hk hL rfl (by kernel_rfl) rfl rfl (fun w hL => w_ext rfl rfl) fun a hk => ?_
        refine d_1 10 2047 rfl (by kernel_rfl) fun K hK => ?_
        refine q_sto (o := 0) (cs := [.int .u64 ((dg 0 (RR s (dv l k)) : Nat) : Int), .int .u64 ((dg 1 (RR s (dv l k)) : Nat) : Int), .int .u64 ((dg 2 (RR s (dv l k)) : Nat) : Int), .int .u64 ((dg 3 (RR s (dv l k)) : Nat) : Int)]) (vs' := [.int .u64 ((dg 0 (RR s (dv l k)) : Nat) : Int), .int .u64 ((dg 1 (RR s (dv l k)) : Nat) : Int), .int .u64 ((dg 2 (RR s (dv l k)) : Nat) : Int), .int .u64 ((dg 3 (RR s (dv l k)) : Nat) : Int)]) hk hs rfl rfl rfl ty51 rfl rfl rfl rfl rfl rfl fun w hs => ?_
        have hL := okL.cons (hs.mi 2 rfl) okL.nil
        refine c_end (x_t (hK _ _ hL ?_))
        clear hK K
        refine d_v 11 4095 hk hL rfl (by kernel_rfl) rfl rfl (fun w hL => w_as rfl) fun a hk => ?_
        refine d_end (by kernel_rfl) ?_
        refine (x_t ?_)
        refine wpIn_seq ?_
        refine wpIn_region_lit ?_
        refine q_val hk (w_mv rfl) rfl rfl rfl fun a hk => ?_
        refine q_val hk (w_ne rfl rfl (decide_eq_false (by decide))) rfl rfl rfl fun a hk => ?_
        refine (c_end (x_t ?_))
        refine c_F hk rfl ?_
        refine (wpIn_skip (x_t ?_))
        refine wpIn_seq ?_
        refine wpIn_region_lit ?_
        refine q_val hk (w_fa rfl fq27_4 ty25) rfl rfl rfl fun a hk => ?_
        refine q_val hk (w_ld1 rfl ty25 (.blk (n := 1) (hs.mi 3 rfl) rfl)) rfl rfl rfl fun a hk => ?_
        refine q_val hk (w_ldv (z := RR s (dv l k)) rfl ty51 (.blk (n := 4) (hs.mi 0 rfl) rfl)) rfl rfl rfl fun a hk => ?_
        refine q_bsl (els := [.tmp 83]) (cs := [.int .u64 ((dg 0 (RR s (dv l k)) : Nat) : Int), .int .u64 ((dg 1 (RR s (dv l k)) : Nat) : Int), .int .u64 ((dg 2 (RR s (dv l k)) : Nat) : Int), .int .u64 ((dg 3 (RR s (dv l k)) : Nat) : Int)]) hk hs rfl Tryd.underlying25 ty51 zr51 rfl rfl rfl rfl rfl rfl rfl fun b13 w a hk hs => ?_
        have hs := hs.up2
        refine q_app (news := [.int .u64 ((dg 0 (RR s (dv l k)) : Nat) : Int), .int .u64 ((dg 1 (RR s (dv l k)) : Nat) : Int), .int .u64 ((dg 2 (RR s (dv l k)) : Nat) : Int), .int .u64 ((dg 3 (RR s (dv l k)) : Nat) : Int)]) (m := 1) hk hs rfl rfl Tryd.underlying25 ty51 zr51 rfl rfl (.blk (n := 4) (hs.mi 1 rfl) rfl) rfl rfl (by omega) (by omega) rfl rfl fun a14 c15 w a hk hs => ?_
        have hs := hs.up1
        have hs := hs.drop
        have hs := hs.rw0 (congrArg _ en_succ)
        refine q_val hk (w_fa rfl fq27_4 ty25) rfl rfl rfl fun a hk => ?_
        have hs := hs.up3
        refine q_sto (o := 4) (cs := [.slice a14 (k + 1) c15]) (vs' := [.int .i64 (((l.getD 1 0) : Nat) : Int), .int .i64 (((l.getD 2 0) : Nat) : Int), .int .i64 (((l.getD 3 0) : Nat) : Int), .int .i64 ((((l.getD 4 0) : Nat) : Int) + (256 * (((l.getD 5 0) : Nat) : Int))), .slice a14 (k + 1) c15]) hk hs rfl rfl rfl ty25 rfl rfl rfl rfl rfl rfl fun w hs => ?_
        refine (c_end (x_t ?_))
        refine wpIn_seq ?_
        refine wpIn_region_lit ?_
        refine q_val hk (w_mv rfl) rfl rfl rfl fun a hk => ?_
        refine q_val hk (w_add rfl rfl (wr64 (by omega) (by omega))) rfl rfl rfl fun a hk => ?_
        refine q_val hk (w_as rfl) rfl rfl rfl fun a hk => ?_
        refine (c_end (x_t ?_))
        refine (wpIn_goto (x_tg (x_jg ?_)))
        rw [show (((6 + 32 * k : Nat) : Int) + 32) = ((6 + 32 * (k + 1) : Nat) : Int) by omega] at hk
        have hs := hs.up2
        have hs := hs.drop
        have hs := hs.up3
        have hs := hs.up1
        have hs := hs.up3
        have hs := hs.up3
        exact .inl ⟨rfl, k + 1, ⟨_, _, _, _, hf0, (by omega), (okB_more hf2 hp), hk.k rfl (hk.k rfl (hk.k rfl (hk.k rfl (hk.k rfl hk.nil)))), hs⟩, by omega⟩
      · skip
        have hL := okL.cons (hs.mi 2 rfl) okL.nil
        refine d_begin _ 12 (by kernel_rfl) rfl hs hL fun w hs hL => ?_
        refine d_v 0 1 hk hL rfl (by kernel_rfl) rfl rfl (fun w hL => w_ldA rfl ty53 (.blk (n := 14) (hL.at 0 rfl) rfl) rfl) fun a hk => ?_
        refine d_v 1 3 hk hL rfl (by kernel_rfl) rfl rfl (fun w hL => w_mv rfl) fun a hk => ?_
        refine d_v 2 7 hk hL rfl (by kernel_rfl) rfl rfl (fun w hL => w_mv rfl) fun a hk => ?_
        refine d_v 3 15 hk hL rfl (by kernel_rfl) rfl rfl (fun w hL => w_mv rfl) fun a hk => ?_
        refine d_v 4 31 hk hL rfl (by kernel_rfl) rfl rfl (fun w hL => w_add rfl rfl (wr64 (by omega) (by omega))) fun a hk => ?_
        refine d_v 5 63 hk hL rfl (by kernel_rfl) rfl rfl (fun w hL => w_slc (l := 6 + 32 * k) (h := (6 + 32 * k + 32)) rfl rfl rfl Tryd.underlying29 ty5 rfl rfl (by omega) (by omega) (by omega) (by omega) (by omega)) fun a hk => ?_
        refine d_1 6 127 rfl (by kernel_rfl) fun K hK => ?_
        refine q_call (caps := []) hk rfl rfl Tryd.func35 fo35 rfl rfl (decQ s la n lc k l _ (hs.ri 0 rfl) hl (by omega)) ?_
        rintro _ w ⟨he, hb⟩
        rw [if_neg hc12] at he
        subst he
        have hs := hs.below hb
        refine ⟨_, rfl, fun a hk => ?_⟩
        have hL := okL.cons (hs.mi 2 rfl) okL.nil
        refine c_end (x_t (hK _ _ hL ?_))
        clear hK K
        refine d_v 7 255 hk hL rfl (by kernel_rfl) rfl rfl (fun w hL => w_mv rfl) fun a hk => ?_
        refine d_v 8 511 hk hL rfl (by kernel_rfl) rfl rfl (fun w hL => w_ext rfl rfl) fun a hk => ?_
        refine d_v 9 1023 hk hL rfl (by kernel_rfl) rfl rfl (fun w hL => w_ext rfl rfl) fun a hk => ?_
        refine d_1 10 2047 rfl (by kernel_rfl) fun K hK => ?_
        refine q_sto (o := 0) (cs := [.int .u64 ((dg 0 0 : Nat) : Int), .int .u64 ((dg 1 0 : Nat) : Int), .int .u64 ((dg 2 0 : Nat) : Int), .int .u64 ((dg 3 0 : Nat) : Int)]) (vs' := [.int .u64 ((dg 0 0 : Nat) : Int), .int .u64 ((dg 1 0 : Nat) : Int), .int .u64 ((dg 2 0 : Nat) : Int), .int .u64 ((dg 3 0 : Nat) : Int)]) hk hs rfl rfl rfl ty51 rfl rfl rfl rfl rfl rfl fun w hs => ?_
        have hL := okL.cons (hs.mi 2 rfl) okL.nil
        refine c_end (x_t (hK _ _ hL ?_))
        clear hK K
        refine d_v 11 4095 hk hL rfl (by kernel_rfl) rfl rfl (fun w hL => w_as rfl) fun a hk => ?_
        refine d_end (by kernel_rfl) ?_
        refine (x_t ?_)
        refine wpIn_seq ?_
        refine wpIn_region_lit ?_
        refine q_val hk (w_mv rfl) rfl rfl rfl fun a hk => ?_
        refine q_val hk (w_ne rfl rfl (decide_eq_true (by decide))) rfl rfl rfl fun a hk => ?_
        refine (c_end (x_t ?_))
        refine c_T hk rfl ?_
        refine (wpIn_goto (x_tg (x_tg (x_jg ?_))))
        have hx0 := dErr_nine hf0 hS rfl hlt hc12
        have hs := hs.drop
        have hs := hs.drop
        have hs := hs.drop
        have hs := hs.drop
        exact .inr ⟨rfl, ⟨_, hx0, (by decide), hk.k rfl (hk.k rfl hk.nil), hs⟩⟩
    · skip
      obtain rfl : (cn (dL l)) = k := by omega
      refine q_val hk (w_lt rfl rfl (decide_eq_false hc10)) rfl rfl rfl fun a hk => ?_
      refine (c_end (x_t ?_))
      refine c_F hk rfl ?_
      refine (wpIn_skip (x_t ?_))
      refine wpIn_seq ?_
      refine wpIn_seq ?_
      refine wpIn_region_lit ?_
      refine q_val hk (w_mv rfl) rfl rfl rfl fun a hk => ?_
      rcases Classical.em (tagOk n l = true) with hc16 | hc16
      · skip
        refine q_call (caps := []) hk rfl rfl Tryd.func36 fo36 rfl rfl (sameTag_t la n lc l _ (hs.ri 0 rfl) hl hn (by omega) (HS.step hs.toBelow) hc16) ?_
        rintro _ w ⟨rfl, hb⟩
        have hs := hs.below hb
        refine ⟨_, rfl, fun a hk => ?_⟩
        refine (c_end (x_t ?_))
        refine c_T hk rfl ?_
        refine wpIn_seq ?_
        refine wpIn_region_lit ?_
        refine q_val hk (w_ldA rfl ty27 (.blk (n := 5) (hs.mi 2 rfl) rfl) rfl) rfl rfl rfl fun a hk => ?_
        have hs := hs.up3
        refine q_sto (o := 0) (cs := [.int .i64 (((l.getD 1 0) : Nat) : Int), .int .i64 (((l.getD 2 0) : Nat) : Int), .int .i64 (((l.getD 3 0) : Nat) : Int), .int .i64 ((((l.getD 4 0) : Nat) : Int) + (256 * (((l.getD 5 0) : Nat) : Int))), .slice ao (cn (dL l)) co]) (vs' := [.int .i64 (((l.getD 1 0) : Nat) : Int), .int .i64 (((l.getD 2 0) : Nat) : Int), .int .i64 (((l.getD 3 0) : Nat) : Int), .int .i64 ((((l.getD 4 0) : Nat) : Int) + (256 * (((l.getD 5 0) : Nat) : Int))), .slice ao (cn (dL l)) co]) hk hs rfl rfl rfl ty27 rfl rfl rfl rfl rfl rfl fun w hs => ?_
        refine q_val hk (w_as rfl) rfl rfl rfl fun a hk => ?_
        refine (c_end (x_t ?_))
        refine (wpIn_ret (x_tr (x_jr ?_)))
        refine c_retG (vs := [.agg #[.int .i64 (((l.getD 1 0) : Nat) : Int), .int .i64 (((l.getD 2 0) : Nat) : Int), .int .i64 (((l.getD 3 0) : Nat) : Int), .int .i64 ((((l.getD 4 0) : Nat) : Int) + (256 * (((l.getD 5 0) : Nat) : Int))), .slice ao (cn (dL l)) co], .int .i64 0]) hk rfl ⟨⟨_, rfl, lv_A ty27 (.blk (n := 5) (hs.mi 0 rfl) rfl) rfl⟩, rfl, trivial⟩ rfl ?_
        have hs := hs.drop
        have hs := hs.up1
        have hs := hs.drop
        have hs := hs.up1
        have hs := hs.drop
        have he : dErr n l = 0 := by rw [dErr_tag hf0 hS rfl hf2, if_pos hc16]
        subst hS
        exact DQ.good he hs.fin
      · skip
        refine q_call (caps := []) hk rfl rfl Tryd.func36 fo36 rfl rfl (sameTag_f la n lc l _ (hs.ri 0 rfl) hl hn (by omega) (HS.step hs.toBelow) hc16) ?_
        rintro _ w ⟨rfl, hb⟩
        have hs := hs.below hb
        refine ⟨_, rfl, fun a hk => ?_⟩
        refine (c_end (x_t ?_))
        refine c_F hk rfl ?_
        refine (wpIn_skip (x_t ?_))
        refine wpIn_seq ?_
        refine wpIn_region_lit ?_
        refine q_val hk (w_as rfl) rfl rfl rfl fun a hk => ?_
        refine (c_end (x_t ?_))
        refine wpIn_seq ?_
        refine wpIn_label (x_t ?_)
        have hx0 : dErr n l = 13 := by rw [dErr_tag hf0 hS rfl hf2, if_neg hc16]
        have hs := hs.drop
        have hs := hs.drop
        have hs := hs.drop
        exact c_fall0 H0 ⟨_, hx0, (by decide), hk.k rfl (hk.k rfl hk.nil), hs⟩
  · skip
    intro H0 H1
    refine wpIn_seq ?_
    refine wpIn_region_lit ?_
    refine q_alc (vs := [.int .i64 0, .int .i64 0, .int .i64 0, .int .i64 0, .slice none 0 0]) hk hs zr27 rfl rfl rfl fun b2 w a hk hs => ?_
    refine (c_end (x_t ?_))
    refine wpIn_seq ?_
    refine wpIn_region_lit ?_
    refine q_val hk (w_as rfl) rfl rfl rfl fun a hk => ?_
    refine (c_end (x_t ?_))
    refine wpIn_seq ?_
    refine wpIn_region_lit ?_
    refine q_alc (vs := [.int .i64 0, .int .u64 0, .int .u64 0, .int .u64 0, .int .u64 0, .int .u64 0, .int .u64 0, .int .u64 0, .int .u64 0, .int .u64 0, .int .u64 0, .int .u64 0, .int .u64 0, .int .u64 0]) hk hs zr53 rfl rfl rfl fun b3 w a hk hs => ?_
    refine (c_end (x_t ?_))
    refine wpIn_seq ?_
    refine wpIn_region_lit ?_
    refine q_val hk (w_as rfl) rfl rfl rfl fun a hk => ?_
    refine (c_end (x_t ?_))
    refine wpIn_seq ?_
    refine wpIn_seq ?_
    refine wpIn_region_lit ?_
    refine q_val hk (w_mv rfl) rfl rfl rfl fun a hk => ?_
    refine q_val hk (w_len rfl Tryd.underlying29) rfl rfl rfl fun a hk => ?_
    rcases Classical.em (((n : Nat) : Int) < 38) with hc4 | hc4
    · skip
      refine q_val hk (w_lt rfl rfl (decide_eq_true hc4)) rfl rfl rfl fun a hk => ?_
      refine (c_end (x_t ?_))
      refine c_T hk rfl ?_
      refine (wpIn_goto (x_tg (x_jg ?_)))
      have hd : dHead n l = 8 := by unfold dHead; rw [if_pos (by omega)]
      have hx0 : dErr n l = 8 := by unfold dErr; rw [if_pos (by rw [hd]; decide), hd]
      have hs := hs.drop
      have hs := hs.drop
      exact .inr ⟨rfl, ⟨_, hx0, (by decide), hk.k rfl (hk.k rfl hk.nil), hs⟩⟩
    · skip
      refine q_val hk (w_lt rfl rfl (decide_eq_false hc4)) rfl rfl rfl fun a hk => ?_
      refine (c_end (x_t ?_))
      refine c_F hk rfl ?_
      refine (wpIn_skip (x_t ?_))
      refine wpIn_seq ?_
      have hL := okL.cons (hs.ri 0 rfl) okL.nil
      refine d_begin _ 24 (by kernel_rfl) rfl hs hL fun w hs hL => ?_
      refine d_v 0 1 hk hL rfl (by kernel_rfl) rfl rfl (fun w hL => w_mv rfl) fun a hk => ?_
      refine d_v 1 3 hk hL rfl (by kernel_rfl) rfl rfl (fun w hL => w_iaL (k := 1) rfl rfl Tryd.underlying29 ty5 (hL.at 0 rfl) (by omega) (by omega)) fun a hk => ?_
      refine d_v 2 7 hk hL rfl (by kernel_rfl) rfl rfl (fun w hL => w_ld1 rfl ty5 (lstq (k := 1) (hL.at 0 rfl) (by omega) (el_chunk bc_len (by omega) 0))) fun a hk => ?_
      refine d_v 3 15 hk hL rfl (by kernel_rfl) rfl rfl (fun w hL => w_conv rfl Tryd.underlying5 Tryd.underlying3 (wr64 (by omega) (by omega))) fun a hk => ?_
      refine d_v 4 31 hk hL rfl (by kernel_rfl) rfl rfl (fun w hL => w_mv rfl) fun a hk => ?_
      refine d_v 5 63 hk hL rfl (by kernel_rfl) rfl rfl (fun w hL => w_iaL (k := 2) rfl rfl Tryd.underlying29 ty5 (hL.at 0 rfl) (by omega) (by omega)) fun a hk => ?_
      refine d_v 6 127 hk hL rfl (by kernel_rfl) rfl rfl (fun w hL => w_ld1 rfl ty5 (lstq (k := 2) (hL.at 0 rfl) (by omega) (el_chunk bc_len (by omega) 0))) fun a hk => ?_
      refine d_v 7 255 hk hL rfl (by kernel_rfl) rfl rfl (fun w hL => w_conv rfl Tryd.underlying5 Tryd.underlying3 (wr64 (by omega) (by omega))) fun a hk => ?_
      refine d_v 8 511 hk hL rfl (by kernel_rfl) rfl rfl (fun w hL => w_mv rfl) fun a hk => ?_
      refine d_v 9 1023 hk hL rfl (by kernel_rfl) rfl rfl (fun w hL => w_iaL (k := 3) rfl rfl Tryd.underlying29 ty5 (hL.at 0 rfl) (by omega) (by omega)) fun a hk => ?_
      refine d_v 10 2047 hk hL rfl (by kernel_rfl) rfl rfl (fun w hL => w_ld1 rfl ty5 (lstq (k := 3) (hL.at 0 rfl) (by omega) (el_chunk bc_len (by omega) 0))) fun a hk => ?_
      refine d_v 11 4095 hk hL rfl (by kernel_rfl) rfl rfl (fun w hL => w_conv rfl Tryd.underlying5 Tryd.underlying3 (wr64 (by omega) (by omega))) fun a hk => ?_
      refine d_v 12 8191 hk hL rfl (by kernel_rfl) rfl rfl (fun w hL => w_mv rfl) fun a hk => ?_
      refine d_v 13 16383 hk hL rfl (by kernel_rfl) rfl rfl (fun w hL => w_iaL (k := 4) rfl rfl Tryd.underlying29 ty5 (hL.at 0 rfl) (by omega) (by omega)) fun a hk => ?_
      refine d_v 14 32767 hk hL rfl (by kernel_rfl) rfl rfl (fun w hL => w_ld1 rfl ty5 (lstq (k := 4) (hL.at 0 rfl) (by omega) (el_chunk bc_len (by omega) 0))) fun a hk => ?_
      refine d_v 15 65535 hk hL rfl (by kernel_rfl) rfl rfl (fun w hL => w_conv rfl Tryd.underlying5 Tryd.underlying3 (wr64 (by omega) (by omega))) fun a hk => ?_
      refine d_v 16 131071 hk hL rfl (by kernel_rfl) rfl rfl (fun w hL => w_mv rfl) fun a hk => ?_
      refine d_v 17 262143 hk hL rfl (by kernel_rfl) rfl rfl (fun w hL => w_iaL (k := 5) rfl rfl Tryd.underlying29 ty5 (hL.at 0 rfl) (by omega) (by omega)) fun a hk => ?_
      refine d_v 18 524287 hk hL rfl (by kernel_rfl) rfl rfl (fun w hL => w_ld1 rfl ty5 (lstq (k := 5) (hL.at 0 rfl) (by omega) (el_chunk bc_len (by omega) 0))) fun a hk => ?_
      refine d_v 19 1048575 hk hL rfl (by kernel_rfl) rfl rfl (fun w hL => w_conv rfl Tryd.underlying5 Tryd.underlying3 (wr64 (by omega) (by omega))) fun a hk => ?_
      refine d_v 20 2097151 hk hL rfl (by kernel_rfl) rfl rfl (fun w hL => w_shl (r := (((l.getD 5 0) : Nat) : Int) * 256) rfl rfl (by decide) (by rw [show ((2 : Int) ^ min (Int.toNat 8) IntKind.i64.bits) = 256 by decide]; exact wr64 (by omega) (by omega))) fun a hk => ?_
      refine d_v 21 4194303 hk hL rfl (by kernel_rfl) rfl rfl (fun w hL => w_bit (op := .or) (by simp) rfl rfl (or_head g4 g5)) fun a hk => ?_
      refine d_v 22 8388607 hk hL rfl (by kernel_rfl) rfl rfl (fun w hL => w_bld rfl fl27 zr27 rfl rfl) fun a hk => ?_
      refine d_1 23 16777215 rfl (by kernel_rfl) fun K hK => ?_
      have hs := hs.up1
      refine q_sto (o := 0) (cs := [.int .i64 (((l.getD 1 0) : Nat) : Int), .int .i64 (((l.getD 2 0) : Nat) : Int), .int .i64 (((l.getD 3 0) : Nat) : Int), .int .i64 ((((l.getD 4 0) : Nat) : Int) + (256 * (((l.getD 5 0) : Nat) : Int))), .slice none 0 0]) (vs' := [.int .i64 (((l.getD 1 0) : Nat) : Int), .int .i64 (((l.getD 2 0) : Nat) : Int), .int .i64 (((l.getD 3 0) : Nat) : Int), .int .i64 ((((l.getD 4 0) : Nat) : Int) + (256 * (((l.getD 5 0) : Nat) : Int))), .slice none 0 0]) hk hs rfl rfl rfl ty27 rfl rfl rfl rfl rfl rfl fun w hs => ?_
      have hL := okL.cons (hs.ri 0 rfl) okL.nil
      refine c_end (x_t (hK _ _ hL ?_))
      clear hK K
      refine d_end (by kernel_rfl) ?_
      refine (x_t ?_)
      refine wpIn_seq ?_
      refine wpIn_seq ?_
      refine wpIn_region_lit ?_
      refine q_val hk (w_mv rfl) rfl rfl rfl fun a hk => ?_
      refine q_val hk (w_iaL (k := 0) rfl rfl Tryd.underlying29 ty5 (hs.ri 0 rfl) (by omega) (by omega)) rfl rfl rfl fun a hk => ?_
      refine q_val hk (w_ld1 rfl ty5 (lstq (k := 0) (hs.ri 0 rfl) (by omega) (el_chunk bc_len (by omega) 0))) rfl rfl rfl fun a hk => ?_
      rcases Classical.em ((((l.getD 0 0) : Nat) : Int) ≠ 1) with hc5 | hc5
      · skip
        refine q_val hk (w_ne rfl rfl (decide_eq_true hc5)) rfl rfl rfl fun a hk => ?_
        refine (c_end (x_t ?_))
        refine c_T hk rfl ?_
        refine wpIn_seq ?_
        refine wpIn_region_lit ?_
        refine q_val hk (w_as rfl) rfl rfl rfl fun a hk => ?_
        refine (c_end (x_t ?_))
        refine (wpIn_goto (x_tg (x_jg ?_)))
        have hd : dHead n l = 11 := by unfold dHead; rw [if_neg (by omega), if_pos (by omega)]
        have hx0 : dErr n l = 11 := by unfold dErr; rw [if_pos (by rw [hd]; decide), hd]
        have hs := hs.drop
        have hs := hs.drop
        exact .inr ⟨rfl, ⟨_, hx0, (by decide), hk.k rfl (hk.k rfl hk.nil), hs⟩⟩
      · skip
        refine q_val hk (w_ne rfl rfl (decide_eq_false hc5)) rfl rfl rfl fun a hk => ?_
        refine (c_end (x_t ?_))
        refine c_F hk rfl ?_
        refine (wpIn_skip (x_t ?_))
        refine wpIn_seq ?_
        refine wpIn_seq ?_
        refine wpIn_region_lit ?_
        refine q_val hk (w_fa rfl fq27_0 ty3) rfl rfl rfl fun a hk => ?_
        refine q_val hk (w_ld1 rfl ty3 (.blk (n := 1) (hs.mi 0 rfl) rfl)) rfl rfl rfl fun a hk => ?_
        rcases Classical.em (l.getD 1 0 = 1 ∨ l.getD 1 0 = 2) with hc6 | hc6
        · skip
          refine q_call (caps := []) hk rfl rfl Tryd.func28 fo28 rfl rfl (get_eq (hS ▸ dS_fid hc6 : B l 1 = fid s) _ (HL.step hs.toBelow)) ?_
          rintro _ w ⟨rfl, hb⟩
          have hs := hs.below hb
          refine ⟨_, rfl, fun a hk => ?_⟩
          refine q_val hk (w_mv rfl) rfl rfl rfl fun a hk => ?_
          refine q_val hk (w_ext rfl rfl) rfl rfl rfl fun a hk => ?_
          refine q_val hk (w_ext rfl rfl) rfl rfl rfl fun a hk => ?_
          have hs := hs.up1
          refine q_sto (o := 0) (cs := fieldL s) (vs' := fieldL s) hk hs rfl rfl rfl ty53 rfl rfl rfl rfl rfl rfl fun w hs => ?_
          refine q_val hk (w_as rfl) rfl rfl rfl fun a hk => ?_
          refine (c_end (x_t ?_))
          refine wpIn_seq ?_
          refine wpIn_region_lit ?_
          refine q_val hk (w_mv rfl) rfl rfl rfl fun a hk => ?_
          refine q_val hk (w_ne rfl rfl (decide_eq_false (by decide))) rfl rfl rfl fun a hk => ?_
          refine (c_end (x_t ?_))
          refine c_F hk rfl ?_
          refine (wpIn_skip (x_t ?_))
          refine wpIn_seq ?_
          refine wpIn_block ?_
          refine wpIn_seq ?_
          refine wpIn_region_lit ?_
          refine q_val hk (w_fa rfl fq27_1 ty3) rfl rfl rfl fun a hk => ?_
          refine q_val hk (w_ld1 rfl ty3 (.blk (n := 1) (hs.mi 1 rfl) rfl)) rfl rfl rfl fun a hk => ?_
          rcases Classical.em ((((l.getD 2 0) : Nat) : Int) = 0) with hc7 | hc7
          · skip
            refine q_val hk (w_eq rfl rfl (decide_eq_true hc7)) rfl rfl rfl fun a hk => ?_
            refine q_val hk (w_as rfl) rfl rfl rfl fun a hk => ?_
            refine (c_end (x_t ?_))
            refine c_T hk rfl ?_
            refine wpIn_region_lit ?_
            refine q_val hk (w_as rfl) rfl rfl rfl fun a hk => ?_
            refine (c_end (x_b (x_t ?_)))
            refine wpIn_seq ?_
            refine wpIn_seq ?_
            refine wpIn_region_lit ?_
            refine q_val hk (w_mv rfl) rfl rfl rfl fun a hk => ?_
            refine q_val hk (w_ne rfl rfl (decide_eq_true (by decide))) rfl rfl rfl fun a hk => ?_
            refine (c_end (x_t ?_))
            refine c_T hk rfl ?_
            refine (wpIn_goto (x_tg (x_jg ?_)))
            have hd : dHead n l = 4 := by unfold dHead; rw [if_neg (by omega), if_neg (by omega), if_neg (by omega), if_pos (by omega)]
            have hx0 : dErr n l = 4 := by unfold dErr; rw [if_pos (by rw [hd]; decide), hd]
            have hs := hs.drop
            have hs := hs.drop
            exact .inr ⟨rfl, ⟨_, hx0, (by decide), hk.k rfl (hk.k rfl hk.nil), hs⟩⟩
          · skip
            refine q_val hk (w_eq rfl rfl (decide_eq_false hc7)) rfl rfl rfl fun a hk => ?_
            refine q_val hk (w_as rfl) rfl rfl rfl fun a hk => ?_
            refine (c_end (x_t ?_))
            refine c_F hk rfl ?_
            refine wpIn_seq ?_
            refine wpIn_region_lit ?_
            refine q_val hk (w_fa rfl fq27_2 ty3) rfl rfl rfl fun a hk => ?_
            refine q_val hk (w_ld1 rfl ty3 (.blk (n := 1) (hs.mi 1 rfl) rfl)) rfl rfl rfl fun a hk => ?_
            rcases Classical.em ((((l.getD 3 0) : Nat) : Int) = 0) with hc8 | hc8
            · skip
              refine q_val hk (w_eq rfl rfl (decide_eq_true hc8)) rfl rfl rfl fun a hk => ?_
              refine q_val hk (w_as rfl) rfl rfl rfl fun a hk => ?_
              refine (c_end (x_t ?_))
              refine c_T hk rfl ?_
              refine wpIn_region_lit ?_
              refine q_val hk (w_as rfl) rfl rfl rfl fun a hk => ?_
              refine (c_end (x_b (x_t ?_)))
              refine wpIn_seq ?_
              refine wpIn_seq ?_
              refine wpIn_region_lit ?_
              refine q_val hk (w_mv rfl) rfl rfl rfl fun a hk => ?_
              refine q_val hk (w_ne rfl rfl (decide_eq_true (by decide))) rfl rfl rfl fun a hk => ?_
              refine (c_end (x_t ?_))
              refine c_T hk rfl ?_
              refine (wpIn_goto (x_tg (x_jg ?_)))
              have hd : dHead n l = 12 := by unfold dHead; rw [if_neg (by omega), if_neg (by omega), if_neg (by omega), if_neg (by omega), if_pos (by omega)]
              have hx0 : dErr n l = 12 := by unfold dErr; rw [if_pos (by rw [hd]; decide), hd]
              have hs := hs.drop
              have hs := hs.drop
              exact .inr ⟨rfl, ⟨_, hx0, (by decide), hk.k rfl (hk.k rfl hk.nil), hs⟩⟩
            · skip
              refine q_val hk (w_eq rfl rfl (decide_eq_false hc8)) rfl rfl rfl fun a hk => ?_
              refine q_val hk (w_as rfl) rfl rfl rfl fun a hk => ?_
              refine (c_end (x_t ?_))
              refine c_F hk rfl ?_
              refine wpIn_seq ?_
              refine wpIn_region_lit ?_
              refine q_val hk (w_mv rfl) rfl rfl rfl fun a hk => ?_
              refine q_val hk (w_len rfl Tryd.underlying29) rfl rfl rfl fun a hk => ?_
              refine q_val hk (w_fa rfl fq27_3 ty3) rfl rfl rfl fun a hk => ?_
              refine q_val hk (w_ld1 rfl ty3 (.blk (n := 1) (hs.mi 1 rfl) rfl)) rfl rfl rfl fun a hk => ?_
              refine q_call (caps := []) hk rfl rfl Tryd.func10 fo10 rfl rfl (size_c ((((l.getD 4 0) : Nat) : Int) + (256 * (((l.getD 5 0) : Nat) : Int))) _) ?_
              rintro _ w ⟨rfl, hb⟩
              have hs := hs.below hb
              refine ⟨_, rfl, fun a hk => ?_⟩
              rcases Classical.em (((n : Nat) : Int) ≠ (rsz ((((l.getD 4 0) : Nat) : Int) + (256 * (((l.getD 5 0) : Nat) : Int))))) with hc9 | hc9
              · skip
                refine q_val hk (w_ne rfl rfl (decide_eq_true hc9)) rfl rfl rfl fun a hk => ?_
                refine q_val hk (w_as rfl) rfl rfl rfl fun a hk => ?_
                refine (c_end (x_t ?_))
                refine c_T hk rfl ?_
                refine wpIn_region_lit ?_
                refine q_val hk (w_as rfl) rfl rfl rfl fun a hk => ?_
                refine (c_end (x_b (x_t ?_)))
                refine wpIn_seq ?_
                refine wpIn_seq ?_
                refine wpIn_region_lit ?_
                refine q_val hk (w_mv rfl) rfl rfl rfl fun a hk => ?_
                refine q_val hk (w_ne rfl rfl (decide_eq_true (by decide))) rfl rfl rfl fun a hk => ?_
                refine (c_end (x_t ?_))
                refine c_T hk rfl ?_
                refine (wpIn_goto (x_tg (x_jg ?_)))
                have hd : dHead n l = 8 := by unfold dHead; rw [if_neg (by omega), if_neg (by omega), if_neg (by omega), if_neg (by omega), if_neg (by omega), if_pos hc9]
                have hx0 : dErr n l = 8 := by unfold dErr; rw [if_pos (by rw [hd]; decide), hd]
                have hs := hs.drop
                have hs := hs.drop
                exact .inr ⟨rfl, ⟨_, hx0, (by decide), hk.k rfl (hk.k rfl hk.nil), hs⟩⟩
              · skip
                refine q_val hk (w_ne rfl rfl (decide_eq_false hc9)) rfl rfl rfl fun a hk => ?_
                refine q_val hk (w_as rfl) rfl rfl rfl fun a hk => ?_
                refine (c_end (x_t ?_))
                refine c_F hk rfl ?_
                refine (wpIn_skip (x_b (x_t ?_)))
                refine wpIn_seq ?_
                refine wpIn_seq ?_
                refine wpIn_region_lit ?_
                refine q_val hk (w_mv rfl) rfl rfl rfl fun a hk => ?_
                refine q_val hk (w_ne rfl rfl (decide_eq_false (by decide))) rfl rfl rfl fun a hk => ?_
                refine (c_end (x_t ?_))
                refine c_F hk rfl ?_
                refine (wpIn_skip (x_t ?_))
                refine wpIn_seq ?_
                refine wpIn_label (x_t ?_)
                have h0 : dHead n l = 0 := by unfold dHead; rw [if_neg (by omega), if_neg (by omega), if_neg (by omega), if_neg (by omega), if_neg (by omega), if_neg hc9]
                have hs := hs.row0 51 4
                exact c_fall1 H1 0 ⟨_, _, _, _, h0, (by omega), rfl, hk.k rfl (hk.k rfl (hk.k rfl (hk.k rfl (hk.k rfl hk.nil)))), hs⟩
        · skip
          refine q_call (caps := []) hk rfl rfl Tryd.func28 fo28 rfl rfl (getBad_c (((l.getD 1 0) : Nat) : Int) (by omega) (by omega) _ (HL.step hs.toBelow)) ?_
          rintro _ w ⟨rfl, hb⟩
          have hs := hs.below hb
          refine ⟨_, rfl, fun a hk => ?_⟩
          refine q_val hk (w_mv rfl) rfl rfl rfl fun a hk => ?_
          refine q_val hk (w_ext rfl rfl) rfl rfl rfl fun a hk => ?_
          refine q_val hk (w_ext rfl rfl) rfl rfl rfl fun a hk => ?_
          have hs := hs.up1
          refine q_sto (o := 0) (cs := [.int .i64 0, .int .u64 0, .int .u64 0, .int .u64 0, .int .u64 0, .int .u64 0, .int .u64 0, .int .u64 0, .int .u64 0, .int .u64 0, .int .u64 0, .int .u64 0, .int .u64 0, .int .u64 0]) (vs' := [.int .i64 0, .int .u64 0, .int .u64 0, .int .u64 0, .int .u64 0, .int .u64 0, .int .u64 0, .int .u64 0, .int .u64 0, .int .u64 0, .int .u64 0, .int .u64 0, .int .u64 0, .int .u64 0]) hk hs rfl rfl rfl ty53 rfl rfl rfl rfl rfl rfl fun w hs => ?_
          refine q_val hk (w_as rfl) rfl rfl rfl fun a hk => ?_
          refine (c_end (x_t ?_))
          refine wpIn_seq ?_
          refine wpIn_region_lit ?_
          refine q_val hk (w_mv rfl) rfl rfl rfl fun a hk => ?_
          refine q_val hk (w_ne rfl rfl (decide_eq_true (by decide))) rfl rfl rfl fun a hk => ?_
          refine (c_end (x_t ?_))
          refine c_T hk rfl ?_
          refine (wpIn_goto (x_tg (x_jg ?_)))
          have hd : dHead n l = 3 := by unfold dHead; rw [if_neg (by omega), if_neg (by omega), if_pos (by omega)]
          have hx0 : dErr n l = 3 := by unfold dErr; rw [if_pos (by rw [hd]; decide), hd]
          have hs := hs.drop
          have hs := hs.drop
          exact .inr ⟨rfl, ⟨_, hx0, (by decide), hk.k rfl (hk.k rfl hk.nil), hs⟩⟩
theorem recDec_c (la : Option Addr) (n lc : Nat) (l : List Nat) (W : World) (H : LstAt W 1 (.slice la n lc) n (el bc l)) (hl : ∀ x ∈ l, x < 256) (hn : n ≤ 100000) (HL : Laid W) (HS : Sh.Laid W) : Calls Tryd.prog 16 #[.slice la n lc] W (DQ W n l) := recDec_s _ la n lc l W H hl hn HL HS rfl
end Go.Proofs.YtjhfepkpfakemaaDoor
