/- The contracts of bytecode.Encode and of the reference's Encode. The contract of the reference's Encode. The contracts of bytecode.Unpack and of the reference's Unpack. The contract of the reference's Unpack. -/
import Derived.Test.YtpggmebgndkpjaaDoorSevenA
import Derived.Test.YtpggmebgndkpjaaDoorLaws5
import Derived.Maps.AppendAt
import Derived.OwnWalk
import Derived.Test.YtpggmebgndkpjaaDoorRefs
import Derived.Test.YtpggmebgndkpjaaDoorMonts
namespace Go.Proofs.YtpggmebgndkpjaaDoor
set_option linter.all false
open Go Go.RowKit

/-- The first n bytes of v. -/
def bl (v n : Nat) : List Value := (List.range n).map fun j => Value.int .u8 ((byt v j : Nat) : Int)
theorem bl_len (v n : Nat) : (bl v n).length = n := by simp [bl]
theorem bl_succ (v n : Nat) : bl v n ++ [.int .u8 ((byt v n : Nat) : Int)] = bl v (n + 1) := by simp [bl, List.range_succ]
theorem bl_get (v n j : Nat) (h : j < n) : (bl v n)[j]? = some (.int .u8 ((byt v j : Nat) : Int)) := by simp [bl, h]

theorem infoByte : (Tryd.prog.info? 5).map (fun i => (i.zero, i.size, i.bytes)) = some (some (.int .u8 0), 1, 1) := by kernel_rfl

theorem one_byte (x : Int) : ∀ u ∈ [Value.int .u8 x], u.oneCell' = true := fun u hu => by
  simp only [List.mem_singleton] at hu
  subst hu
  rfl

/-- What the append of one byte leaves. -/
theorem enc_rel {w wr w1 : World} {B base n : Nat} {r r' : Value} {v : Nat} {x : Int} {o : Obj} (hb : Below B w wr) (hBb : B ≤ base) (hs : base ≤ wr.heap.size) (hown : wr.ownsRow base 5 1 r n (bl v n))
    (hown' : w1.ownsRow base 5 1 r' (n + 1) (bl v n ++ [.int .u8 x])) (hgrow : (wr.alloc o).grownBy w1 r.ownBlock) (hx : x = ((byt v n : Nat) : Int)) :
    w1.ownsRow base 5 1 r' (n + 1) (bl v (n + 1)) ∧ Below B w w1 ∧ Below base wr w1 ∧ base ≤ w1.heap.size := by
  subst hx
  rw [bl_succ] at hown'
  refine ⟨hown', (hb.alloc (by omega) o).grown hgrow (by simp only [World.size_alloc]; omega) (fun j hj => Nat.le_trans hBb (hown.lt j hj).1),
    ((Below.refl _ _).alloc hs o).grown hgrow (by simp only [World.size_alloc]; omega) (fun j hj => (hown.lt j hj).1), ?_⟩
  have := hgrow.size
  simp only [World.size_alloc] at this
  omega

/-- A slice of n bytes of its own. -/
theorem out_of {w : World} {base n v : Nat} {r : Value} (h : w.ownsRow base 5 1 r n (bl v n)) (hn : 0 < n) :
    ∃ g c, r = .slice (some ⟨g, 0, none⟩) n c ∧ base ≤ g ∧ n ≤ c ∧ BytesAt w g 0 n (byt v) := by
  rcases h.2 with ⟨_, h0⟩ | ⟨g, cap, cur, rfl, hb, hg, hc, _⟩
  · omega
  · refine ⟨g, cap, rfl, hb, hc, byt_lt v, (h.lt g rfl).2, fun j hj => ?_⟩
    have := h.cells (g := g) rfl j _ (bl_get v n j hj)
    have e : (⟨g, 0, none⟩ : Addr).add j = ⟨g, 0 + j, none⟩ := by unfold Addr.add; split <;> simp_all
    rwa [e] at this

theorem size_u64' (w : World) : (sizeOf 43).run Tryd.prog w = .ok 1 w := by kernel_rfl
/-- Word k of a vector that stands in the frame. -/
theorem run_index_vec (v k : Nat) (hk : k < 4) (w : World) : (Instr.index 44 (vec v) (.int .i64 (k : Int))).run Tryd.prog w = .ok (.int .u64 ((dg k v : Nat) : Int)) w := by
  have h : k = 0 ∨ k = 1 ∨ k = 2 ∨ k = 3 := by omega
  rcases h with rfl | rfl | rfl | rfl <;> (unfold vec; simp [Instr.index, asIntOf, run_underlying Tryd.underlying44, part, Sem.run_bind, isAgg, run_underlying Tryd.underlying43, size_u64'])
theorem wpList_index_of {P : Program} {ops : Array Oper} {rest : List Oper} {o : Oper} {a : Act} {w : World} {Q : Exit → Act → World → Prop} (hgd : o.guard = none) (ty : TypeId) (x ix : Operand) (ho : o.op = .index ty x ix)
    (p i v : Value) (hx : a.eval x = p) (hi : a.eval ix = i) (hv : (Instr.index ty p i).run P w = .ok v w) (h : wpList P ops Q rest (a.put o.dst v) w) : wpList P ops Q (o :: rest) a w :=
  wpList_plain hgd fun K hK => by
    unfold Oper.wp execOp
    simp only [ho, hx, hi, Sem.run_bind, Sem.run_pure, Result.andThen_ok, hv]
    exact hK _ _ h

theorem enc_byte (v i k : Nat) (hi : i < 4) (hk : k < 8) : IntKind.u8.wrap (((dg i v : Nat) : Int) / 2 ^ (8 * k)) = ((byt v (8 * i + k) : Nat) : Int) := by
  rw [← byt_dg v i k hk]
  unfold byt
  rw [IntKind.wrap_u8]
  have e : (2 : Nat) ^ (8 * k) = 256 ^ k := by rw [Nat.pow_mul]
  rw [← e, show ((2 : Int) ^ (8 * k)) = ((2 ^ (8 * k) : Nat) : Int) from (Int.natCast_pow 2 _).symm]
  generalize 2 ^ (8 * k) = m
  omega

set_option maxRecDepth 100000 in
set_option maxHeartbeats 8000000 in
theorem encode_walk (s : Bool) (x v : Nat) (hf : Hid (∀ w, Calls Tryd.prog 112 #[fieldV s, vec x] w fun e w' => e = .returned (vec v) ∧ Below w.heap.size w w')) (w : World) :
    Calls Tryd.prog 89 #[fieldV s, vec x] w fun e w' => (∃ r, e = .returned r ∧ w'.ownsRow w.heap.size 5 1 r 32 (bl v 32)) ∧ Below w.heap.size w w' := by
  obtain ⟨i0, hi, hz0, hz1, hz2⟩ := info_parts infoByte
  have Hi := Lib.hid hi
  have Hz0 := Lib.hid hz0
  have Hz1 := Lib.hid hz1
  have Hz2 := Lib.hid hz2
  clear hi hz0 hz1 hz2
  go_enter Tryd.func89, Tryd.ntmps89
  go_wp2_with fail
  refine Calls.mono (hf.out _) ?_
  rintro _ w1 ⟨rfl, h1⟩
  obtain ⟨c1, f1, s1⟩ := bfacts h1
  try simp only [World.size_alloc, World.size_setCell, size_drew, size_drewN] at s1
  have l_w_w1_0 : w.heap.size < w1.heap.size := by omega
  have l_w_w1_1 : w.heap.size + 1 < w1.heap.size := by omega
  have hB0 : Below w.heap.size w w1 := by
    have := h1
    exact Below.trans (by repeat first | with_reducible exact Below.refl _ _ | with_reducible refine Below.drew ?_ | with_reducible refine below_dN ?_ | with_reducible refine Below.alloc ?_ (by first | omega | (simp; done) | (simp; omega)) _ | with_reducible refine Below.setCell ?_ (by first | omega | (simp; done) | (simp; omega)) _ | with_reducible refine Below.trans ?_ (Below.mono (by assumption) (by first | omega | (simp; done) | (simp; omega)))) (Below.mono h1 (by simp only [World.size_alloc, size_drew]; omega))
  have Hs := Lib.hid hB0.size
  have HB0 := Lib.hid hB0
  clear hB0 c1 f1 h1
  go_wp2_with fail
  go_loopw [5, 12] (fun r i wr => ∃ k : Nat, k ≤ 4 ∧ i = .int .i64 (k : Int) ∧ wr.ownsRow w.heap.size 5 1 r (8 * k) (bl v (8 * k)) ∧ Below w.heap.size w wr) (fun _ i _ => 4 - (intOf i).toNat)
  case atStart => exact ⟨0, by omega, rfl, World.ownsRow_nil _ _ _ _, HB0.out⟩
  case round =>
    obtain ⟨k, hk, rfl, hown, hbel⟩ := hrel
    have Hown := Lib.hid hown
    have Hbel := Lib.hid hbel
    clear hown hbel
    by_cases hlt : k < 4
    · go_wp2_with (refine wpList_index_of rfl 44 (.tmp 11) (.tmp 12) rfl (vec v) (.int .i64 (k : Int)) (.int .u64 ((dg k v : Nat) : Int)) rfl rfl (run_index_vec v k hlt _) ?_; simp only [Act.put, List.setIfInBounds_toArray, List.set_cons_zero, List.set_cons_succ, List.tail_cons])
      have hdk : decide ((k : Int) < 4) = true := decide_eq_true (by omega)
      simp only [hdk]
      clear hdk
      go_loopw [5, 15] (fun r j wr => ∃ n : Nat, n ≤ 8 ∧ j = .int .i64 (n : Int) ∧ wr.ownsRow w.heap.size 5 1 r (8 * k + n) (bl v (8 * k + n)) ∧ Below w.heap.size w wr) (fun _ j _ => 8 - (intOf j).toNat)
      case atStart => exact ⟨0, by omega, rfl, Hown.out, Hbel.out⟩
      case round =>
        obtain ⟨n, hn, rfl, hown, hbel⟩ := hrel
        have Hown2 := Lib.hid hown
        have Hbel2 := Lib.hid hbel
        clear hown hbel
        by_cases hlt2 : n < 8
        · have hq := enc_byte v k n hlt hlt2
          go_wp2_with (at_builtin; refine wpList_append_own _ rfl (.tmp 18) (.tmp 24) 53 rfl w.heap.size 5 i0 (.int .u8 0) 1 1 Tryd.underlying53 Hi.out Hz0.out Hz1.out Hz2.out rfl (by decide) _ _ _ rfl (Hown2.out.alloc _) ⟨wr.heap.size, 0, none⟩ 1 1 [.int .u8 ((byt v (8 * k + n) : Nat) : Int)] rfl rfl (cell_one_new _ _ _) (one_byte _) (by unfold maxLen; omega) (by omega) (by have := Hbel2.out.size; simp only [World.size_alloc]; omega) ?_; intro r' w1' hown' hgrow' _)
          obtain ⟨R1, R2, _, _⟩ := enc_rel Hbel2.out (Nat.le_refl _) Hbel2.out.size Hown2.out hown' hgrow' rfl
          have R1' := Lib.hid R1
          have R2' := Lib.hid R2
          clear R1 R2 hown' hgrow' hq
          go_wp2_with fail
          go_roundw
          case rel => exact ⟨n + 1, by omega, by go_num, R1'.out, R2'.out⟩
          case measure => simp [intOf]; omega
        · obtain rfl : n = 8 := by omega
          go_wp2_with fail
          go_roundw
          case rel => exact ⟨k + 1, by omega, by go_num, Hown2.out, Hbel2.out⟩
          case measure => simp [intOf]; omega
    · obtain rfl : k = 4 := by omega
      go_wp2_with fail
      go_ret
      exact ⟨⟨_, rfl, Hown.out⟩, Hbel.out⟩
end Go.Proofs.YtpggmebgndkpjaaDoor

namespace Go.Proofs.YtpggmebgndkpjaaDoor
set_option linter.all false
open Go Go.RowKit

/-- What is left of word i behind n bytes. -/
def wd (v i n : Nat) : Nat := dg i v / 256 ^ n
theorem wd_zero (v i : Nat) : wd v i 0 = dg i v := by unfold wd; rw [Nat.pow_zero, Nat.div_one]
theorem wd_lt (v i n : Nat) : wd v i n < W := Nat.lt_of_le_of_lt (Nat.div_le_self _ _) (dg_lt _ _)
theorem wd_byte (v i n : Nat) (hn : n < 8) : wd v i n % 256 = byt v (8 * i + n) := byt_dg v i n hn
theorem wd_succ (v i n : Nat) : wd v i n / 256 = wd v i (n + 1) := by unfold wd; rw [Nat.pow_succ, Nat.div_div_eq_div_mul]

set_option maxRecDepth 100000 in
set_option maxHeartbeats 8000000 in
theorem refEncode_c (v : Nat) (w : World) :
    Calls Tryd.prog 94 #[vec v] w fun e w' => (∃ r, e = .returned r ∧ w'.ownsRow (w.heap.size + 1) 5 1 r 32 (bl v 32)) ∧ Below w.heap.size w w' := by
  obtain ⟨i0, hi, hz0, hz1, hz2⟩ := info_parts infoByte
  have Hi := Lib.hid hi
  have Hz0 := Lib.hid hz0
  have Hz1 := Lib.hid hz1
  have Hz2 := Lib.hid hz2
  clear hi hz0 hz1 hz2
  have Hb := Lib.hid ((Below.refl w.heap.size w).alloc (Nat.le_refl _) (.cells #[.int .u64 ((dg 0 v : Nat) : Int), .int .u64 ((dg 1 v : Nat) : Int), .int .u64 ((dg 2 v : Nat) : Int), .int .u64 ((dg 3 v : Nat) : Int)] 44))
  go_enter Tryd.func94, Tryd.ntmps94
  go_wp2_with fail
  go_loopw [3, 4] (fun r i wr => ∃ k : Nat, k ≤ 4 ∧ i = .int .i64 (k : Int) ∧ wr.ownsRow (w.heap.size + 1) 5 1 r (8 * k) (bl v (8 * k)) ∧
    Below (w.heap.size + 1) (w.alloc (.cells #[.int .u64 ((dg 0 v : Nat) : Int), .int .u64 ((dg 1 v : Nat) : Int), .int .u64 ((dg 2 v : Nat) : Int), .int .u64 ((dg 3 v : Nat) : Int)] 44)) wr) (fun _ i _ => 4 - (intOf i).toNat)
  case atStart => exact ⟨0, by omega, rfl, World.ownsRow_nil _ _ _ _, Below.refl _ _⟩
  case round =>
    obtain ⟨k, hk, rfl, hown, hbel⟩ := hrel
    have Hown := Lib.hid hown
    have Hbel := Lib.hid hbel
    clear hown
    by_cases hlt : k < 4
    · have hcell : wr.cell? ⟨w.heap.size, k, none⟩ = some (.int .u64 ((wd v k 0 : Nat) : Int)) := by
        rw [hbel.cell (p := ⟨w.heap.size, k, none⟩) (Nat.lt_succ_self _), wd_zero]
        rw [cell_of_row _ w.heap.size k _ _ _ (heap_alloc_new w _)]
        have h : k = 0 ∨ k = 1 ∨ k = 2 ∨ k = 3 := by omega
        rcases h with rfl | rfl | rfl | rfl <;> rfl
      clear hbel
      go_wp2_with fail
      have hdk : decide ((k : Int) < 4) = true := decide_eq_true (by omega)
      simp only [hdk]
      clear hdk
      go_loopw [3, 5, 6] (fun r x j wr => ∃ n : Nat, n ≤ 8 ∧ j = .int .i64 (n : Int) ∧ x = .int .u64 ((wd v k n : Nat) : Int) ∧ wr.ownsRow (w.heap.size + 1) 5 1 r (8 * k + n) (bl v (8 * k + n)) ∧
        Below (w.heap.size + 1) (w.alloc (.cells #[.int .u64 ((dg 0 v : Nat) : Int), .int .u64 ((dg 1 v : Nat) : Int), .int .u64 ((dg 2 v : Nat) : Int), .int .u64 ((dg 3 v : Nat) : Int)] 44)) wr) (fun _ _ j _ => 8 - (intOf j).toNat)
      case atStart => exact ⟨0, by omega, rfl, rfl, Hown.out, Hbel.out⟩
      case round =>
        obtain ⟨n, hn, rfl, rfl, hown, hbel⟩ := hrel
        have Hown2 := Lib.hid hown
        have Hbel2 := Lib.hid hbel
        clear hown hbel hcell
        by_cases hlt2 : n < 8
        · have hq : IntKind.u8.wrap (((wd v k n : Nat) : Int) % 256) = ((byt v (8 * k + n) : Nat) : Int) := by
            rw [← wd_byte v k n hlt2, IntKind.wrap_u8]; omega
          have hs : IntKind.u64.wrap (((wd v k n : Nat) : Int) / 256) = ((wd v k (n + 1) : Nat) : Int) := by
            have := wd_lt v k n
            rw [← wd_succ, IntKind.wrap_u64]; unfold W at this; omega
          go_wp2_with (at_builtin; refine wpList_append_own _ rfl (.tmp 18) (.tmp 22) 53 rfl (w.heap.size + 1) 5 i0 (.int .u8 0) 1 1 Tryd.underlying53 Hi.out Hz0.out Hz1.out Hz2.out rfl (by decide) _ _ _ rfl (Hown2.out.alloc _) ⟨wr.heap.size, 0, none⟩ 1 1 [.int .u8 ((byt v (8 * k + n) : Nat) : Int)] rfl rfl (cell_one_new _ _ _) (one_byte _) (by unfold maxLen; omega) (by omega) (by have := Hbel2.out.size; simp only [World.size_alloc] at this ⊢; omega) ?_; intro r' w1' hown' hgrow' _)
          obtain ⟨R1, R2, _, _⟩ := enc_rel Hbel2.out (Nat.le_refl _) (by have := Hbel2.out.size; simp only [World.size_alloc] at this; omega) Hown2.out hown' hgrow' rfl
          have R1' := Lib.hid R1
          have R2' := Lib.hid R2
          clear R1 R2 hown' hgrow' hq
          go_wp2_with fail
          go_roundw
          case rel => exact ⟨n + 1, by omega, by go_num, rfl, R1'.out, R2'.out⟩
          case measure => simp [intOf]; omega
        · obtain rfl : n = 8 := by omega
          go_wp2_with fail
          go_roundw
          case rel => exact ⟨k + 1, by omega, by go_num, Hown2.out, Hbel2.out⟩
          case measure => simp [intOf]; omega
    · obtain rfl : k = 4 := by omega
      go_wp2_with fail
      go_ret
      exact ⟨⟨_, rfl, Hown.out⟩, Hb.out.trans (Below.mono Hbel.out (Nat.le_succ _))⟩
end Go.Proofs.YtpggmebgndkpjaaDoor

namespace Go.Proofs.YtpggmebgndkpjaaDoor
set_option linter.all false
open Go Go.RowKit

/-- Encode's contract, the slice laid open. -/
theorem encode_c (s : Bool) (v : Nat) (hv : v < pr s) (w : World) :
    Calls Tryd.prog 89 #[fieldV s, vec (RR s v)] w fun e w' => (∃ g c, e = .returned (.slice (some ⟨g, 0, none⟩) 32 c) ∧ w.heap.size ≤ g ∧ 32 ≤ c ∧ BytesAt w' g 0 32 (byt v)) ∧ Below w.heap.size w w' := by
  refine (encode_walk s (RR s v) v (Lib.hid (fromR_c s v hv)) w).mono ?_
  rintro e w' ⟨⟨r, rfl, hown⟩, hb⟩
  obtain ⟨g, c, rfl, hg, hc, hB⟩ := out_of hown (by omega)
  exact ⟨⟨g, c, rfl, hg, hc, hB⟩, hb⟩
theorem refEncode_at (v : Nat) (w : World) :
    Calls Tryd.prog 94 #[vec v] w fun e w' => (∃ g c, e = .returned (.slice (some ⟨g, 0, none⟩) 32 c) ∧ w.heap.size ≤ g ∧ 32 ≤ c ∧ BytesAt w' g 0 32 (byt v)) ∧ Below w.heap.size w w' := by
  refine (refEncode_c v w).mono ?_
  rintro e w' ⟨⟨r, rfl, hown⟩, hb⟩
  obtain ⟨g, c, rfl, hg, hc, hB⟩ := out_of hown (by omega)
  exact ⟨⟨g, c, rfl, by omega, hc, hB⟩, hb⟩

/-- The bytes of v from m on are zero. -/
def Zf (v m : Nat) : Prop := ∀ j, m ≤ j → j < 32 → byt v j = 0
/-- The or of the first k bytes behind m. -/
def orb (v m : Nat) : Nat → Nat | 0 => 0 | k + 1 => orb v m k ||| byt v (m + k)
theorem orb_lt (v m : Nat) : ∀ k, orb v m k < W | 0 => W_pos | k + 1 => or_lt_W (orb_lt v m k) (Nat.lt_trans (byt_lt _ _) (by decide))
theorem orb_zero {v m : Nat} : ∀ {k}, orb v m k = 0 ↔ ∀ j, j < k → byt v (m + j) = 0
  | 0 => ⟨fun _ j hj => by omega, fun _ => rfl⟩
  | k + 1 => by
    constructor
    · intro h j hj
      obtain ⟨h1, h2⟩ := or_zero h
      by_cases e : j = k
      · subst e; exact h2
      · exact orb_zero.1 h1 j (by omega)
    · intro h
      show orb v m k ||| byt v (m + k) = 0
      rw [orb_zero.2 (fun j hj => h j (by omega)), h k (by omega)]
      rfl
theorem orb_Zf {v m : Nat} (hm : m ≤ 32) : orb v m (32 - m) = 0 ↔ Zf v m := by
  rw [orb_zero]
  exact ⟨fun h j h1 h2 => by have := h (j - m) (by omega); rwa [show m + (j - m) = j by omega] at this, fun h j hj => h _ (by omega) (by omega)⟩
theorem orb_step (v m k : Nat) : bits BinOp.or IntKind.u64 ((orb v m k : Nat) : Int) (IntKind.u64.wrap ((byt v (m + k) : Nat) : Int)) = ((orb v m (k + 1) : Nat) : Int) := by
  have h := byt_lt v (m + k)
  have e : IntKind.u64.wrap ((byt v (m + k) : Nat) : Int) = ((byt v (m + k) : Nat) : Int) := by rw [IntKind.wrap_u64]; omega
  rw [e, u64_or_nat _ _ (orb_lt v m k) (Nat.lt_trans h (by decide))]
  rfl

set_option maxRecDepth 100000 in
set_option maxHeartbeats 2000000 in
theorem maskIsZero1_c (z B : Nat) (hz4 : z < W) (w : World) (hc : w.cell? ⟨B, 0, none⟩ = some (.int .u64 ((z : Nat) : Int))) :
    Calls Tryd.prog 90 #[.slice (some ⟨B, 0, none⟩) 1 1] w fun e w' => e = .returned (.int .u64 ((mb (isz z) : Nat) : Int)) ∧ w = w' := by
  have hor : bits BinOp.or IntKind.u64 0 ((z : Nat) : Int) = (z : Int) := by
    have := u64_or_nat 0 z W_pos hz4
    rwa [Nat.zero_or] at this
  have Hz := Lib.hid (isz_val hz4)
  go_enter Tryd.func90, Tryd.ntmps90
  go_wp2_with fail
  go_loopw [3, 8] (fun v i wr => ∃ (k : Nat), k ≤ 1 ∧ i = .int .i64 (k : Int) ∧ v = .int .u64 (((if k = 0 then 0 else z : Nat)) : Int) ∧ wr = w) (fun _ i _ => 1 - (intOf i).toNat)
  case atStart => exact ⟨0, by omega, rfl, rfl, rfl⟩
  case round =>
    obtain ⟨k, hk4, rfl, rfl, rfl⟩ := hrel
    by_cases hk : k < 1
    · obtain rfl : k = 0 := by omega
      go_wp2_with fail
      all_goals go_roundw
      case rel => exact ⟨1, by omega, by go_num, rfl, trivial⟩
      case measure => simp [intOf]
    · obtain rfl : k = 1 := by omega
      clear hor
      rw [if_neg (by decide)]
      go_wp2_with fail
      rw [Hz.out]
      refine Calls.mono (fromBit_c _ (isz_lt z) _) ?_
      rintro _ _ ⟨rfl, rfl⟩
      go_wp2_with fail
      exact bodyPost_ret (v := .int .u64 ((mb (isz z) : Nat) : Int)) (by simp only [results, Tryd.results90]; go_simp) rfl ⟨rfl, rfl⟩

set_option maxRecDepth 100000 in
set_option maxHeartbeats 4000000 in
theorem unpack_len (s : Bool) (x : Nat) (n : Int) (hn : n < 0 ∨ 31 < n) (w : World) :
    Calls Tryd.prog 61 #[fieldV s, vec x, .int .i64 n] w fun e w' => e = .returned (.tuple #[.slice none 0 0, .int .i64 8]) ∧ Below w.heap.size w w' := by
  by_cases h0 : n < 0
  · clear hn
    go_enter Tryd.func61, Tryd.ntmps61
    go_wp2_with fail
    refine bodyPost_ret (v := .tuple #[.slice none 0 0, .int .i64 8]) (by simp only [results, Tryd.results61]; go_simp) rfl ⟨rfl, ?_⟩
    repeat first
      | with_reducible exact Below.refl _ _
      | with_reducible refine Below.drew ?_
      | with_reducible refine below_dN ?_
      | with_reducible refine Below.alloc ?_ (by first | omega | (simp; done) | (simp; omega)) _
      | with_reducible refine Below.setCell ?_ (by first | omega | (simp; done) | (simp; omega)) _
      | with_reducible refine Below.trans ?_ (Below.mono (by assumption) (by first | omega | (simp; done) | (simp; omega)))
  · have h1 : 31 < n := by omega
    clear hn
    go_enter Tryd.func61, Tryd.ntmps61
    go_wp2_with fail
    refine bodyPost_ret (v := .tuple #[.slice none 0 0, .int .i64 8]) (by simp only [results, Tryd.results61]; go_simp) rfl ⟨rfl, ?_⟩
    repeat first
      | with_reducible exact Below.refl _ _
      | with_reducible refine Below.drew ?_
      | with_reducible refine below_dN ?_
      | with_reducible refine Below.alloc ?_ (by first | omega | (simp; done) | (simp; omega)) _
      | with_reducible refine Below.setCell ?_ (by first | omega | (simp; done) | (simp; omega)) _
      | with_reducible refine Below.trans ?_ (Below.mono (by assumption) (by first | omega | (simp; done) | (simp; omega)))

set_option maxRecDepth 100000 in
set_option maxHeartbeats 8000000 in
theorem unpack_walk (s : Bool) (x v m : Nat) (hm : m ≤ 31) (w : World)
    (hen : Hid (∀ w, Calls Tryd.prog 89 #[fieldV s, vec x] w fun e w' => (∃ g c, e = .returned (.slice (some ⟨g, 0, none⟩) 32 c) ∧ w.heap.size ≤ g ∧ 32 ≤ c ∧ BytesAt w' g 0 32 (byt v)) ∧ Below w.heap.size w w')) :
    Calls Tryd.prog 61 #[fieldV s, vec x, .int .i64 (m : Int)] w fun e w' =>
      ((Zf v m ∧ ∃ g, e = .returned (.tuple #[.slice (some ⟨g, 0, none⟩) m m, .int .i64 0]) ∧ w.heap.size ≤ g ∧ BytesAt w' g 0 m (byt v)) ∨ (¬ Zf v m ∧ e = .returned (.tuple #[.slice none 0 0, .int .i64 10]))) ∧ Below w.heap.size w w' := by
  have h31 : ¬ 31 < (m : Int) := by omega
  have h32 : (m : Int) ≤ 32 := by omega
  go_enter Tryd.func61, Tryd.ntmps61
  go_wp2_with fail
  refine Calls.mono (hen.out _) ?_
  rintro _ w1 ⟨⟨g, c, rfl, hg, hc, hB⟩, h1⟩
  obtain ⟨c1, f1, s1⟩ := bfacts h1
  try simp only [World.size_alloc, World.size_setCell, size_drew, size_drewN] at s1
  have l_w_w1_0 : w.heap.size < w1.heap.size := by omega
  have l_w_w1_1 : w.heap.size + 1 < w1.heap.size := by omega
  have hc1 : (m : Int) ≤ (c : Int) := by omega
  have hc2 : (32 : Int) ≤ (c : Int) := by omega
  have Hg := Lib.hid hg
  have HB := Lib.hid hB
  clear hg hB
  go_wp2_with fail
  have hd0 : decide ((m : Int) < 0) = false := decide_eq_false (by omega)
  simp only [hd0]
  clear hd0 h31 h32 hc1 hc2
  have hl : ((32 - m : Nat) : Int) = 32 - (m : Int) := by omega
  go_loopw [9, 25] (fun r i wr => ∃ k : Nat, k ≤ 32 - m ∧ i = .int .i64 (k : Int) ∧ r = .int .u64 ((orb v m k : Nat) : Int) ∧ wr = w1) (fun _ i _ => 32 - m - (intOf i).toNat)
  case atStart => exact ⟨0, by omega, rfl, rfl, rfl⟩
  case round =>
    obtain ⟨k, hk, rfl, rfl, rfl⟩ := hrel
    by_cases hlt : k < 32 - m
    · have hcell := HB.out.cell (m + k) (by omega)
      rw [Nat.zero_add] at hcell
      have hq := orb_step v m k
      go_wp2_with fail
      go_roundw
      case rel => exact ⟨k + 1, by omega, by go_num, rfl, trivial⟩
      case measure => simp [intOf]; omega
    · obtain rfl : k = 32 - m := by omega
      have Hz := Lib.hid (orb_Zf (v := v) (m := m) (by omega))
      have Hz4 := Lib.hid (orb_lt v m (32 - m))
      have Hm := Lib.hid hm
      clear hlt hk hl hm
      generalize orb v m (32 - m) = z at Hz Hz4 ⊢
      have hc1 : (m : Int) ≤ (c : Int) := by have := Hm.out; omega
      by_cases h0 : z = 0
      · have hZ := Lib.hid (Hz.out.1 h0)
        subst h0
        go_wp2_with fail
        refine Calls.mono (maskIsZero1_c 0 wr.heap.size W_pos _ (by go_simp)) ?_
        rintro _ _ ⟨rfl, rfl⟩
        rw [show mb (isz 0) = 18446744073709551615 from rfl]
        go_wp2_with fail
        refine bodyPost_ret (v := .tuple #[.slice (some ⟨g, 0, none⟩) m m, .int .i64 0]) (by simp only [results, Tryd.results61]; go_simp) rfl ⟨.inl ⟨hZ.out, g, rfl, Nat.le_trans (by simp only [World.size_alloc]; omega) Hg.out, (HB.out.take m (by have := Hm.out; omega)).below ((Below.refl _ _).alloc (Nat.le_refl _) _)⟩, ?_⟩
        repeat first
          | with_reducible exact Below.refl _ _
          | with_reducible refine Below.drew ?_
          | with_reducible refine below_dN ?_
          | with_reducible refine Below.alloc ?_ (by first | omega | (simp; done) | (simp; omega)) _
          | with_reducible refine Below.setCell ?_ (by first | omega | (simp; done) | (simp; omega)) _
          | with_reducible refine Below.trans ?_ (Below.mono (by assumption) (by first | omega | (simp; done) | (simp; omega)))
      · have hZ := Lib.hid (fun h => h0 (Hz.out.2 h))
        have hmb : mb (isz z) = 0 := by unfold isz; rw [if_neg h0]; rfl
        clear h0
        go_wp2_with fail
        refine Calls.mono (maskIsZero1_c z wr.heap.size Hz4.out _ (by go_simp)) ?_
        rintro _ _ ⟨rfl, rfl⟩
        rw [hmb]
        go_wp2_with fail
        refine bodyPost_ret (v := .tuple #[.slice none 0 0, .int .i64 10]) (by simp only [results, Tryd.results61]; go_simp) rfl ⟨.inr ⟨hZ.out, rfl⟩, ?_⟩
        repeat first
          | with_reducible exact Below.refl _ _
          | with_reducible refine Below.drew ?_
          | with_reducible refine below_dN ?_
          | with_reducible refine Below.alloc ?_ (by first | omega | (simp; done) | (simp; omega)) _
          | with_reducible refine Below.setCell ?_ (by first | omega | (simp; done) | (simp; omega)) _
          | with_reducible refine Below.trans ?_ (Below.mono (by assumption) (by first | omega | (simp; done) | (simp; omega)))
end Go.Proofs.YtpggmebgndkpjaaDoor

namespace Go.Proofs.YtpggmebgndkpjaaDoor
set_option linter.all false
open Go Go.RowKit

set_option maxRecDepth 100000 in
set_option maxHeartbeats 4000000 in
theorem refUnpack_len (v : Nat) (n : Int) (hn : n < 0 ∨ 31 < n) (w : World) :
    Calls Tryd.prog 64 #[vec v, .int .i64 n] w fun e w' => e = .returned (.tuple #[.slice none 0 0, .int .i64 8]) ∧ Below w.heap.size w w' := by
  by_cases h0 : n < 0
  · clear hn
    go_enter Tryd.func64, Tryd.ntmps64
    go_wp2_with fail
    refine bodyPost_ret (v := .tuple #[.slice none 0 0, .int .i64 8]) (by simp only [results, Tryd.results64]; go_simp) rfl ⟨rfl, ?_⟩
    repeat first
      | with_reducible exact Below.refl _ _
      | with_reducible refine Below.drew ?_
      | with_reducible refine below_dN ?_
      | with_reducible refine Below.alloc ?_ (by first | omega | (simp; done) | (simp; omega)) _
      | with_reducible refine Below.setCell ?_ (by first | omega | (simp; done) | (simp; omega)) _
      | with_reducible refine Below.trans ?_ (Below.mono (by assumption) (by first | omega | (simp; done) | (simp; omega)))
  · have h1 : 31 < n := by omega
    clear hn
    go_enter Tryd.func64, Tryd.ntmps64
    go_wp2_with fail
    refine bodyPost_ret (v := .tuple #[.slice none 0 0, .int .i64 8]) (by simp only [results, Tryd.results64]; go_simp) rfl ⟨rfl, ?_⟩
    repeat first
      | with_reducible exact Below.refl _ _
      | with_reducible refine Below.drew ?_
      | with_reducible refine below_dN ?_
      | with_reducible refine Below.alloc ?_ (by first | omega | (simp; done) | (simp; omega)) _
      | with_reducible refine Below.setCell ?_ (by first | omega | (simp; done) | (simp; omega)) _
      | with_reducible refine Below.trans ?_ (Below.mono (by assumption) (by first | omega | (simp; done) | (simp; omega)))

set_option maxRecDepth 100000 in
set_option maxHeartbeats 8000000 in
theorem refUnpack_walk (v m : Nat) (hm : m ≤ 31) (w : World) :
    Calls Tryd.prog 64 #[vec v, .int .i64 (m : Int)] w fun e w' =>
      ((Zf v m ∧ ∃ g c, e = .returned (.tuple #[.slice (some ⟨g, 0, none⟩) m c, .int .i64 0]) ∧ w.heap.size ≤ g ∧ BytesAt w' g 0 m (byt v)) ∨ (¬ Zf v m ∧ e = .returned (.tuple #[.slice none 0 0, .int .i64 10]))) ∧ Below w.heap.size w w' := by
  have h31 : ¬ 31 < (m : Int) := by omega
  have h32 : (m : Int) ≤ 32 := by omega
  go_enter Tryd.func64, Tryd.ntmps64
  go_wp2_with fail
  refine Calls.mono (refEncode_at v _) ?_
  rintro _ w1 ⟨⟨g, c, rfl, hg, hc, hB⟩, h1⟩
  obtain ⟨c1, f1, s1⟩ := bfacts h1
  try simp only [World.size_alloc, World.size_setCell, size_drew, size_drewN] at s1
  have l_w_w1_0 : w.heap.size < w1.heap.size := by omega
  have Hg := Lib.hid hg
  have Hc := Lib.hid hc
  have HB := Lib.hid hB
  clear hg hB hc
  go_wp2_with fail
  have hd0 : decide ((m : Int) < 0) = false := decide_eq_false (by omega)
  simp only [hd0]
  clear hd0 h31 h32
  go_loopw [7] (fun i wr => ∃ k : Nat, m ≤ k ∧ k ≤ 32 ∧ i = .int .i64 (k : Int) ∧ (∀ j, m ≤ j → j < k → byt v j = 0) ∧ wr = w1) (fun i _ => 32 - (intOf i).toNat)
  case atStart => exact ⟨m, Nat.le_refl _, by omega, rfl, fun j h1 h2 => by omega, rfl⟩
  case round =>
    obtain ⟨k, hmk, hk, rfl, hz, rfl⟩ := hrel
    have Hz := Lib.hid hz
    clear hz
    by_cases hlt : k < 32
    · have hcell := HB.out.cell k hlt
      rw [Nat.zero_add] at hcell
      by_cases h0 : byt v k = 0
      · rw [h0] at hcell
        have H0 := Lib.hid h0
        clear h0
        go_wp2_with fail
        go_roundw
        case rel => exact ⟨k + 1, by omega, by omega, by go_num, (fun j h1 h2 => if e : j = k then e ▸ H0.out else Hz.out j h1 (by omega)), trivial⟩
        case measure => simp [intOf]; omega
      · have hne : (((byt v k : Nat) : Int) != 0) = true := by rw [bne_iff_ne]; omega
        have HZ := Lib.hid (fun h : Zf v m => h0 (h k hmk hlt))
        clear h0
        go_wp2_with fail
        refine bodyPost_ret (v := .tuple #[.slice none 0 0, .int .i64 10]) (by simp only [results, Tryd.results64]; go_simp) rfl ⟨.inr ⟨HZ.out, rfl⟩, ?_⟩
        repeat first
          | with_reducible exact Below.refl _ _
          | with_reducible refine Below.drew ?_
          | with_reducible refine below_dN ?_
          | with_reducible refine Below.alloc ?_ (by first | omega | (simp; done) | (simp; omega)) _
          | with_reducible refine Below.setCell ?_ (by first | omega | (simp; done) | (simp; omega)) _
          | with_reducible refine Below.trans ?_ (Below.mono (by assumption) (by first | omega | (simp; done) | (simp; omega)))
    · obtain rfl : k = 32 := by omega
      have hc1 : (m : Int) ≤ (c : Int) := by have := Hc.out; omega
      clear hlt hk
      go_wp2_with fail
      refine bodyPost_ret (v := .tuple #[.slice (some ⟨g, 0, none⟩) m c, .int .i64 0]) (by simp only [results, Tryd.results64]; go_simp) rfl ⟨.inl ⟨Hz.out, g, c, rfl, Nat.le_trans (by simp only [World.size_alloc]; omega) Hg.out, HB.out.take m (by omega)⟩, ?_⟩
      repeat first
        | with_reducible exact Below.refl _ _
        | with_reducible refine Below.drew ?_
        | with_reducible refine below_dN ?_
        | with_reducible refine Below.alloc ?_ (by first | omega | (simp; done) | (simp; omega)) _
        | with_reducible refine Below.setCell ?_ (by first | omega | (simp; done) | (simp; omega)) _
        | with_reducible refine Below.trans ?_ (Below.mono (by assumption) (by first | omega | (simp; done) | (simp; omega)))
end Go.Proofs.YtpggmebgndkpjaaDoor
