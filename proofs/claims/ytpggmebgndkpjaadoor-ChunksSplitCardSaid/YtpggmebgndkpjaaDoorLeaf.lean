/- Contracts of the leaves: mask, the references' small functions. -/
import Derived.Test.YtpggmebgndkpjaaDoorNum
import Derived.Test.YtpggmebgndkpjaaDoorProg
import Derived.Test.YtpggmebgndkpjaaDoorShelf
import Derived.WalkLawsBesides
import Derived.WalkSpells
import Derived.Deep.DeepFit
import Derived.Deep.RegionHeld3
import Derived.Deep.QuietTactic
import Derived.BigQuiet
namespace Go.Proofs.YtpggmebgndkpjaaDoor
set_option linter.all false
open Go.RowKit

theorem ret_val {a b : Value} (h : a = b) : Ending.returned a = Ending.returned b := by rw [h]
theorem ret2 {a b c d : Value} (h : a = c) (k : b = d) : Ending.returned (.tuple #[a, b]) = .returned (.tuple #[c, d]) := by rw [h, k]
theorem ru64 {a : Int} {n : Nat} (h : a = (n : Int)) : Value.int .u64 a = .int .u64 (n : Int) := by rw [h]
theorem ru64n {a n : Nat} (h : a = n) : Value.int .u64 (a : Int) = .int .u64 (n : Int) := by rw [h]
theorem ret_u64 {a : Int} {n : Nat} (h : a = (n : Int)) : Ending.returned (Value.int .u64 a) = Ending.returned (Value.int .u64 (n : Int)) := by rw [h]

set_option maxHeartbeats 400000 in
theorem fromBit_c (x : Nat) (hx : x < W) (w : World) :
    Calls Tryd.prog 113 #[.int .u64 (x : Int)] w fun e w' => e = .returned (.int .u64 ((mb x : Nat) : Int)) ∧ w = w' := by
  go_enter Tryd.func113, Tryd.ntmps113
  go_wp2
  go_ret
  exact ⟨ret_u64 (fromBit_val hx), rfl⟩

set_option maxHeartbeats 400000 in
theorem maskChoose_c (s a b : Nat) (ha : a < W) (hb : b < W) (w : World) :
    Calls Tryd.prog 131 #[.int .u64 ((mb s : Nat) : Int), .int .u64 (a : Int), .int .u64 (b : Int)] w fun e w' => e = .returned (.int .u64 ((sel s a b : Nat) : Int)) ∧ w = w' := by
  go_enter Tryd.func131, Tryd.ntmps131
  go_wp2
  go_ret
  exact ⟨ret_u64 (choose_val ha hb), rfl⟩

/-- math/bits.Add64, Sub64: the model's own entries. -/
theorem add64_c (x y c : Nat) (hc : c ≤ 1) (w : World) :
    (callFunc 123 #[.int .u64 (x : Int), .int .u64 (y : Int), .int .u64 (c : Int)]).run Tryd.prog w =
      .ok (.value (.tuple #[.int .u64 ((addLo x y c : Nat) : Int), .int .u64 ((addHi x y c : Nat) : Int)])) w := by
  rw [run_callFunc_extern Tryd.func123 (by kernel_rfl) (by kernel_rfl) (by kernel_rfl) (e := add64Entry) (by kernel_rfl), run_add64 x y c (by omega) (by omega) (by omega) (by omega)]
  unfold addLo addHi W
  simp only [Result.andThen]
  congr 5 <;> omega
theorem add64_0 (x y : Nat) (w : World) :
    (callFunc 123 #[.int .u64 (x : Int), .int .u64 (y : Int), .int .u64 0]).run Tryd.prog w =
      .ok (.value (.tuple #[.int .u64 ((addLo x y 0 : Nat) : Int), .int .u64 ((addHi x y 0 : Nat) : Int)])) w := add64_c x y 0 (by omega) w
def sub64Entry' : Array Value → Sem Value := fun args => do
  let (x, y, b) ← Extern.MathBitsCarry.three "Sub64" args
  pure (Extern.MathBitsCarry.pair ((x + Extern.MathBitsCarry.m64 - y - b) % Extern.MathBitsCarry.m64) (if x < y + b then 1 else 0))
theorem run_sub64' {P : Program} (x y b : Nat) (hb : b ≤ 1) (w : World) :
    (sub64Entry' #[.int .u64 x, .int .u64 y, .int .u64 b]).run P w =
      .ok (.tuple #[.int .u64 ((subLo x y b : Nat) : Int), .int .u64 ((subHi x y b : Nat) : Int)]) w := by
  have : b = 0 ∨ b = 1 := by omega
  unfold subLo subHi W
  rcases this with rfl | rfl <;> rfl
theorem sub64_c (x y c : Nat) (hc : c ≤ 1) (w : World) :
    (callFunc 129 #[.int .u64 (x : Int), .int .u64 (y : Int), .int .u64 (c : Int)]).run Tryd.prog w =
      .ok (.value (.tuple #[.int .u64 ((subLo x y c : Nat) : Int), .int .u64 ((subHi x y c : Nat) : Int)])) w := by
  rw [run_callFunc_extern Tryd.func129 (by kernel_rfl) (by kernel_rfl) (by kernel_rfl) (e := sub64Entry') (by kernel_rfl), run_sub64' x y c hc]
  rfl
theorem mul64_c (x y : Nat) (hx : x < W) (hy : y < W) (w : World) :
    Calls Tryd.prog 96 #[.int .u64 x, .int .u64 y] w fun e w' => e = .returned (.tuple #[.int .u64 ((mulHi x y : Nat) : Int), .int .u64 ((mulLo x y : Nat) : Int)]) ∧ w = w' :=
  (Tryd.bits_Mul64 x y hx hy w).mono fun _ _ h => ⟨h.1, h.2.symm⟩

set_option maxHeartbeats 400000 in
theorem multiplyAdd_c (a b c d : Nat) (ha : a < W) (hb : b < W) (hc : c < W) (hd : d < W) (w : World) :
    Calls Tryd.prog 122 #[.int .u64 (a : Int), .int .u64 (b : Int), .int .u64 (c : Int), .int .u64 (d : Int)] w fun e w' => e = .returned (.tuple #[.int .u64 ((maHi a b c d : Nat) : Int), .int .u64 ((maLo a b c d : Nat) : Int)]) ∧ w = w' := by
  go_enter Tryd.func122, Tryd.ntmps122
  go_wp2_with (first | (go_at_call 96; refine (mul64_c _ _ ha hb _).mono ?_; rintro e w' ⟨rfl, rfl⟩) | simp only [add64_0])
  go_ret2
  exact ⟨ret2 (ru64 (ma_hi ha hb hc hd)) (ru64n ma_lo), rfl⟩
end Go.Proofs.YtpggmebgndkpjaaDoor
