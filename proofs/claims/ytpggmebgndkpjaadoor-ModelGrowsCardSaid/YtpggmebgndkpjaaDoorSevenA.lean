/- Bytes as digits in base 256: plain facts. No program in sight. The contract of bytecode.number's function word. The contract of bytecode.number. Bytes in memory; an array of 32 bytes read out of memory. -/
import Derived.Test.YtpggmebgndkpjaaDoorNum
import Derived.Test.YtpggmebgndkpjaaDoorLeafs
import Derived.Test.YtpggmebgndkpjaaDoorWalk0
import Derived.Laws.Cover3
namespace Go.Proofs.YtpggmebgndkpjaaDoor
set_option linter.all false
open Go.RowKit

/-- The number of the first n bytes, the least first. -/
def le (f : Nat → Nat) : Nat → Nat
  | 0 => 0
  | n + 1 => le f n + f n * 256 ^ n
theorem le_succ (f : Nat → Nat) (n : Nat) : le f (n + 1) = le f n + f n * 256 ^ n := rfl
theorem le_lt {f : Nat → Nat} (hf : ∀ j, f j < 256) : ∀ n, le f n < 256 ^ n
  | 0 => by simp [le]
  | n + 1 => by
    have := le_lt hf n
    have h := hf n
    unfold le
    rw [Nat.pow_succ]
    have : f n * 256 ^ n ≤ 255 * 256 ^ n := Nat.mul_le_mul_right _ (by omega)
    omega
theorem le_add (f : Nat → Nat) (m : Nat) : ∀ n, le f (m + n) = le f m + le (fun j => f (m + j)) n * 256 ^ m
  | 0 => by simp [le]
  | n + 1 => by
    rw [← Nat.add_assoc, le_succ, le_succ, le_add f m n, Nat.pow_add, Nat.add_mul, Nat.mul_assoc, Nat.mul_comm (256 ^ m), Nat.add_assoc]
theorem le_congr {f g : Nat → Nat} : ∀ n, (∀ j, j < n → f j = g j) → le f n = le g n
  | 0, _ => rfl
  | n + 1, h => by unfold le; rw [le_congr n (fun j hj => h j (by omega)), h n (by omega)]
theorem le_zero {f : Nat → Nat} (n m : Nat) (hz : ∀ j, n ≤ j → j < m → f j = 0) (hnm : n ≤ m) : le f m = le f n := by
  obtain ⟨k, rfl⟩ : ∃ k, m = n + k := ⟨m - n, by omega⟩
  induction k with
  | zero => rfl
  | succ k ih =>
    rw [← Nat.add_assoc, le_succ, ih (fun j h1 h2 => hz j h1 (by omega)) (by omega), hz (n + k) (by omega) (by omega)]
    simp
theorem W_256 : W = 256 ^ 8 := by decide
theorem le8_lt {f : Nat → Nat} (hf : ∀ j, f j < 256) : le f 8 < W := by rw [W_256]; exact le_lt hf 8
theorem le32_lt {f : Nat → Nat} (hf : ∀ j, f j < 256) : le f 32 < R4 := by
  have := le_lt hf 32
  rwa [show (256 : Nat) ^ 32 = R4 by decide] at this
theorem le32_val4 (f : Nat → Nat) : le f 32 = val4 (le (fun j => f (8 * 0 + j)) 8) (le (fun j => f (8 * 1 + j)) 8) (le (fun j => f (8 * 2 + j)) 8) (le (fun j => f (8 * 3 + j)) 8) := by
  rw [show (32 : Nat) = 24 + 8 from rfl, le_add, show (24 : Nat) = 16 + 8 from rfl, le_add, show (16 : Nat) = 8 + 8 from rfl, le_add]
  unfold val4
  rw [W_256]
  simp only [Nat.mul_zero, Nat.zero_add, Nat.mul_one, ← Nat.pow_mul]
/-- Word k of the number of 32 bytes. -/
theorem dg_le {f : Nat → Nat} (hf : ∀ j, f j < 256) {k : Nat} (hk : k < 4) : dg k (le f 32) = le (fun j => f (8 * k + j)) 8 := by
  have l : ∀ i, le (fun j => f (8 * i + j)) 8 < W := fun i => le8_lt (fun j => hf _)
  rw [le32_val4]
  have : k = 0 ∨ k = 1 ∨ k = 2 ∨ k = 3 := by omega
  rcases this with rfl | rfl | rfl | rfl
  · exact dg0_val (l 0)
  · exact dg1_val (l 0) (l 1)
  · exact dg2_val (l 0) (l 1) (l 2)
  · exact dg3_val (l 0) (l 1) (l 2) (l 3)
theorem vec_le {f : Nat → Nat} (hf : ∀ j, f j < 256) : vec (le f 32) = .agg #[.int .u64 ((le (fun j => f (8 * 0 + j)) 8 : Nat) : Int), .int .u64 ((le (fun j => f (8 * 1 + j)) 8 : Nat) : Int), .int .u64 ((le (fun j => f (8 * 2 + j)) 8 : Nat) : Int), .int .u64 ((le (fun j => f (8 * 3 + j)) 8 : Nat) : Int)] := by
  unfold vec
  rw [dg_le hf (k := 0) (by omega), dg_le hf (k := 1) (by omega), dg_le hf (k := 2) (by omega), dg_le hf (k := 3) (by omega)]
/-- A byte is laid above the lower ones. -/
theorem le_or {f : Nat → Nat} (hf : ∀ j, f j < 256) (k : Nat) : le f k ||| f k * 256 ^ k = le f (k + 1) := by
  have h := le_lt hf k
  have e : (256 : Nat) ^ k = 2 ^ (8 * k) := by rw [Nat.pow_mul]
  rw [e] at h ⊢
  rw [Nat.or_comm, Nat.mul_comm, ← Nat.two_pow_add_eq_or_of_lt h, Nat.add_comm, Nat.mul_comm, ← e]
  rfl
/-- Byte k of a number. -/
def byt (n k : Nat) : Nat := n / 256 ^ k % 256
theorem byt_lt (n k : Nat) : byt n k < 256 := Nat.mod_lt _ (by decide)
theorem le_byt (n : Nat) : ∀ k, le (byt n) k = n % 256 ^ k
  | 0 => by simp [le, Nat.mod_one]
  | k + 1 => by
    unfold le
    rw [le_byt n k, Nat.pow_succ, Nat.mod_mul]
    unfold byt
    rw [Nat.mul_comm (256 ^ k)]
theorem byt_le {f : Nat → Nat} (hf : ∀ j, f j < 256) {k n : Nat} (hk : k < n) : byt (le f n) k = f k := by
  obtain ⟨m, rfl⟩ : ∃ m, n = (k + 1) + m := ⟨n - (k + 1), by omega⟩
  rw [le_add, le_succ]
  unfold byt
  have h := le_lt hf k
  have h2 := hf k
  have hp : 0 < 256 ^ k := Nat.pow_pos (by decide)
  rw [Nat.pow_succ, show le f k + f k * 256 ^ k + le (fun j => f (k + 1 + j)) m * (256 ^ k * 256) = le f k + 256 ^ k * (f k + 256 * le (fun j => f (k + 1 + j)) m) by
    rw [Nat.mul_add, Nat.mul_comm (f k), Nat.mul_left_comm (256 ^ k) 256, Nat.mul_comm (le (fun j => f (k + 1 + j)) m), Nat.mul_comm (256 ^ k) 256, Nat.mul_assoc, Nat.add_assoc]]
  rw [Nat.add_mul_div_left _ _ hp, Nat.div_eq_of_lt h, Nat.zero_add, Nat.add_mul_mod_self_left, Nat.mod_eq_of_lt h2]
/-- Byte 8 i + k of a vector is byte k of its word i. -/
theorem byt_dg (n i k : Nat) (hk : k < 8) : byt (dg i n) k = byt n (8 * i + k) := by
  unfold byt dg
  rw [W_256, ← Nat.pow_mul, Nat.pow_add, ← Nat.div_div_eq_div_mul]
  generalize n / 256 ^ (8 * i) = m
  obtain ⟨r, hr⟩ : ∃ r, 8 = k + 1 + r := ⟨7 - k, by omega⟩
  rw [hr, Nat.pow_add, Nat.pow_succ, Nat.mul_assoc, Nat.mod_mul_right_div_self, Nat.mod_mul_right_mod]
end Go.Proofs.YtpggmebgndkpjaaDoor

namespace Go.Proofs.YtpggmebgndkpjaaDoor
set_option linter.all false
open Go.RowKit

theorem word_or {g : Nat → Nat} (hg : ∀ j, g j < 256) {n : Nat} (hn : n < 8) :
    bits BinOp.or IntKind.u64 ((le g n : Nat) : Int) (IntKind.u64.wrap (IntKind.u64.wrap ((g n : Nat) : Int) * 2 ^ (8 * n))) = ((le g (n + 1) : Nat) : Int) := by
  have h := hg n
  have hp : 256 ^ (n + 1) ≤ W := by rw [W_256]; exact Nat.pow_le_pow_right (by decide) (by omega)
  have l1 := le_lt hg n
  have l2 := le_lt hg (n + 1)
  have hm : g n * 256 ^ n < W := by rw [le_succ] at l2; omega
  have e1 : IntKind.u64.wrap ((g n : Nat) : Int) = ((g n : Nat) : Int) := by rw [IntKind.wrap_u64]; omega
  have e2 : ((g n : Nat) : Int) * 2 ^ (8 * n) = ((g n * 256 ^ n : Nat) : Int) := by
    rw [Nat.pow_mul 2 8 n |> (fun h => show (256 : Nat) ^ n = 2 ^ (8 * n) from h.symm)]
    push_cast
    rfl
  have e3 : IntKind.u64.wrap ((g n * 256 ^ n : Nat) : Int) = ((g n * 256 ^ n : Nat) : Int) := by
    rw [IntKind.wrap_u64]
    have h2 : ((g n * 256 ^ n : Nat) : Int) < 18446744073709551616 := by unfold W at hm; omega
    exact Int.emod_eq_of_lt (by omega) h2
  have l3 : le g n < W := Nat.lt_of_lt_of_le l1 (Nat.le_trans (Nat.pow_le_pow_right (by decide) (by omega)) hp)
  rw [e1, e2, e3, u64_or_nat _ _ l3 hm, le_or hg]

set_option maxRecDepth 100000 in
set_option maxHeartbeats 2000000 in
theorem word_c (f : Nat → Nat) (hf : ∀ j, f j < 256) (B i : Nat) (hi : i < 4) (w : World) (hc : ∀ j, j < 32 → w.cell? ⟨B, j, none⟩ = some (.int .u8 ((f j : Nat) : Int))) :
    Calls Tryd.prog 115 #[.int .i64 (i : Int), .pointer (some ⟨B, 0, none⟩)] w fun e w' => e = .returned (.int .u64 ((le (fun j => f (8 * i + j)) 8 : Nat) : Int)) ∧ w = w' := by
  have Hf := Lib.hid hf
  have Hc := Lib.hid hc
  clear hf hc
  go_enter Tryd.func115, Tryd.ntmps115
  go_wp2_with fail
  go_loop [4, 6] (fun x k => ∃ n : Nat, n ≤ 8 ∧ k = .int .i64 (n : Int) ∧ x = .int .u64 ((le (fun j => f (8 * i + j)) n : Nat) : Int)) (fun _ k => 8 - (intOf k).toNat)
  case atStart => exact ⟨0, by omega, rfl, rfl⟩
  case round =>
    obtain ⟨n, hn, rfl, rfl⟩ := hrel
    by_cases hlt : n < 8
    · have hcell := Hc.out (8 * i + n) (by omega)
      go_wp2_with fail
      go_round
      case rel => exact ⟨n + 1, by omega, by go_num, by rw [word_or (g := fun j => f (8 * i + j)) (fun j => Hf.out _) hlt]⟩
      case measure => simp [intOf]; omega
    · obtain rfl : n = 8 := by omega
      go_wp2_with fail
      go_ret
      exact ⟨rfl, rfl⟩
end Go.Proofs.YtpggmebgndkpjaaDoor

namespace Go.Proofs.YtpggmebgndkpjaaDoor
set_option linter.all false
open Go.RowKit

/-- An array of 32 bytes. -/
structure Arr32 (A : Array Value) (f : Nat → Nat) : Prop where
  size : A.size = 32
  get : ∀ j, j < 32 → A[j]? = some (.int .u8 ((f j : Nat) : Int))
  lt : ∀ j, f j < 256

set_option maxRecDepth 100000 in
set_option maxHeartbeats 2000000 in
theorem number_c (A : Array Value) (f : Nat → Nat) (hA : Arr32 A f) (w : World) :
    Calls Tryd.prog 92 #[.agg A] w fun e w' => e = .returned (vec (le f 32)) ∧ Below w.heap.size w w' := by
  rw [vec_le hA.lt]
  have HA := Lib.hid hA
  clear hA
  go_enter Tryd.func92, Tryd.ntmps92
  go_wp2_with fail
  refine Calls.mono (word_c f HA.out.lt w.heap.size 0 (by omega) _ (fun j hj => ?_)) ?_
  · have hg := HA.out.get j hj
    go_simp
  rintro _ _ ⟨rfl, rfl⟩
  go_wp2_with fail
  refine Calls.mono (word_c f HA.out.lt w.heap.size 1 (by omega) _ (fun j hj => ?_)) ?_
  · have hg := HA.out.get j hj
    go_simp
  rintro _ _ ⟨rfl, rfl⟩
  go_wp2_with fail
  refine Calls.mono (word_c f HA.out.lt w.heap.size 2 (by omega) _ (fun j hj => ?_)) ?_
  · have hg := HA.out.get j hj
    go_simp
  rintro _ _ ⟨rfl, rfl⟩
  go_wp2_with fail
  refine Calls.mono (word_c f HA.out.lt w.heap.size 3 (by omega) _ (fun j hj => ?_)) ?_
  · have hg := HA.out.get j hj
    go_simp
  rintro _ _ ⟨rfl, rfl⟩
  go_wp2_with fail
  refine bodyPost_ret (v := .agg #[.int .u64 ((le (fun j => f (8 * 0 + j)) 8 : Nat) : Int), .int .u64 ((le (fun j => f (8 * 1 + j)) 8 : Nat) : Int), .int .u64 ((le (fun j => f (8 * 2 + j)) 8 : Nat) : Int), .int .u64 ((le (fun j => f (8 * 3 + j)) 8 : Nat) : Int)]) (by simp only [results, Tryd.results92]; go_simp) rfl ⟨rfl, ?_⟩
  repeat first
    | with_reducible exact Below.refl _ _
    | with_reducible refine Below.drew ?_
    | with_reducible refine below_dN ?_
    | with_reducible refine Below.alloc ?_ (by first | omega | (simp; done) | (simp; omega)) _
    | with_reducible refine Below.setCell ?_ (by first | omega | (simp; done) | (simp; omega)) _
    | with_reducible refine Below.trans ?_ (Below.mono (by assumption) (by first | omega | (simp; done) | (simp; omega)))
end Go.Proofs.YtpggmebgndkpjaaDoor

namespace Go.Proofs.YtpggmebgndkpjaaDoor
set_option linter.all false
open Go Go.RowKit

/-- n bytes lie behind ⟨b, off⟩. -/
structure BytesAt (w : World) (b off n : Nat) (f : Nat → Nat) : Prop where
  lt : ∀ j, f j < 256
  blk : b < w.heap.size
  cell : ∀ j, j < n → w.cell? ⟨b, off + j, none⟩ = some (.int .u8 ((f j : Nat) : Int))
theorem BytesAt.below {w w' : World} {b off n : Nat} {f : Nat → Nat} (h : BytesAt w b off n f) (hb : Below w.heap.size w w') : BytesAt w' b off n f :=
  ⟨h.lt, Nat.lt_of_lt_of_le h.blk hb.size, fun j hj => (hb.cell (p := ⟨b, off + j, none⟩) h.blk).trans (h.cell j hj)⟩
theorem BytesAt.part {w : World} {b off n : Nat} {f : Nat → Nat} (h : BytesAt w b off n f) (k m : Nat) (hk : k + m ≤ n) : BytesAt w b (off + k) m (fun j => f (k + j)) :=
  ⟨fun j => h.lt _, h.blk, fun j hj => by rw [Nat.add_assoc]; exact h.cell (k + j) (by omega)⟩
theorem BytesAt.take {w : World} {b off n : Nat} {f : Nat → Nat} (h : BytesAt w b off n f) (m : Nat) (hk : m ≤ n) : BytesAt w b off m f :=
  ⟨h.lt, h.blk, fun j hj => h.cell j (by omega)⟩

/-- 32 bytes as an array. -/
def arr32 (f : Nat → Nat) : Array Value := ((List.range 32).map fun j => Value.int .u8 ((f j : Nat) : Int)).toArray
theorem arr32_ok {f : Nat → Nat} (hf : ∀ j, f j < 256) : Arr32 (arr32 f) f :=
  ⟨by simp [arr32], fun j hj => by simp [arr32, hj], hf⟩
theorem number32_c (f : Nat → Nat) (hf : ∀ j, f j < 256) (w : World) :
    Calls Tryd.prog 92 #[.agg (arr32 f)] w fun e w' => e = .returned (vec (le f 32)) ∧ Below w.heap.size w w' := number_c _ f (arr32_ok hf) w

theorem run_loadVar_at {P : Program} (w : World) (a : Addr) (ty : TypeId) (cs : List Value) (d : TypeDesc) (hc : ∀ j v, cs[j]? = some v → w.cell? (a.add j) = some v)
    (hu : P.underlying ty = some d) (hd : (match d with | .struct _ | .array _ _ => true | _ => false) = true) (hi : (P.info? ty).map (·.size) = some cs.length) :
    (loadVar ty a).run P w = .ok (.agg cs.toArray) w := by
  have hl : (loadCells a cs.length).run P w = .ok cs.toArray w := run_loadCells_list (P := P) w a cs hc
  have hagg : (isAgg ty).run P w = .ok true w := by
    unfold isAgg
    rw [Sem.run_bind, run_underlying hu w]
    cases d <;> simp_all
  cases hq : P.info? ty with
  | none => rw [hq] at hi; cases hi
  | some i =>
    have hs : i.size = cs.length := by rw [hq] at hi; simpa using hi
    simp [loadVar, Sem.run_bind, hagg, sizeOf, typeInfo, hq, hs, hl]
theorem load32 {w : World} {b off n : Nat} {f : Nat → Nat} (h : BytesAt w b off n f) (hn : 32 ≤ n) :
    (Instr.loadAt 120 (.pointer (some ⟨b, off, none⟩))).run Tryd.prog w = .ok (.agg (arr32 f)) w := by
  have := run_loadVar_at (P := Tryd.prog) w ⟨b, off, none⟩ 120 ((List.range 32).map fun j => Value.int .u8 ((f j : Nat) : Int)) _ (fun j v hj => by
    have hj32 : j < 32 := by
      have := (List.getElem?_eq_some_iff.1 hj).1
      simpa using this
    have hv : v = .int .u8 ((f j : Nat) : Int) := by simpa [hj32] using hj.symm
    subst hv
    have e : (⟨b, off, none⟩ : Addr).add j = ⟨b, off + j, none⟩ := by unfold Addr.add; split <;> simp_all
    rw [e]
    exact h.cell j (by omega)) Tryd.underlying120 rfl (by rw [List.length_map, List.length_range]; kernel_rfl)
  simp only [Instr.loadAt, Instr.sureAddr, Sem.run_bind, Sem.run_pure, Result.andThen_ok, this]
  rfl
theorem arrayAt32 (a : Option Addr) (n c : Nat) (hn : 32 ≤ n) (w : World) : (Instr.arrayAt 120 (.slice a n c)).run Tryd.prog w = .ok (.pointer a) w :=
  run_arrayAt w 120 5 32 a n c Tryd.underlying120 hn

/-- A load whose value is known. -/
theorem wpList_load_of {P : Program} {ops : Array Oper} {rest : List Oper} {o : Oper} {a : Act} {w : World} {Q : Exit → Act → World → Prop} (hgd : o.guard = none) (ty : TypeId) (x : Operand) (ho : o.op = .load ty x)
    (p v : Value) (hx : a.eval x = p) (hv : (Instr.loadAt ty p).run P w = .ok v w) (h : wpList P ops Q rest (a.put o.dst v) w) : wpList P ops Q (o :: rest) a w :=
  wpList_plain hgd fun K hK => by
    unfold Oper.wp execOp
    simp only [ho, hx, Sem.run_bind, Sem.run_pure, Result.andThen_ok, hv]
    exact hK _ _ h
theorem exec_load {P : Program} {ρ : Operand → Value} {o : Oper} {w : World} {ty : TypeId} {x : Operand} {p v : Value} (ho : o.op = .load ty x) (hx : ρ x = p) (hv : (Instr.loadAt ty p).run P w = .ok v w) :
    (execOp ρ o).run P w = .ok (.value v) w := by
  unfold execOp
  simp only [ho, hx, Sem.run_bind, Sem.run_pure, Result.andThen_ok, hv]
end Go.Proofs.YtpggmebgndkpjaaDoor
