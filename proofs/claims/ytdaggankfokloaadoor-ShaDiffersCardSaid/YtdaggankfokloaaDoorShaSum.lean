/- SHA-256: the words of a block, the rounds, the sum, as plain functions. No program in sight. -/
import Derived.Test.YtdaggankfokloaaDoorSha
namespace Go.Proofs.YtdaggankfokloaaDoor
set_option linter.all false
open Go.RowKit

def be4 (f : Nat → Nat) (t : Nat) : Nat := f (4 * t) * 16777216 + f (4 * t + 1) * 65536 + f (4 * t + 2) * 256 + f (4 * t + 3)
/-- The number of the first k bytes of word t, the greatest first. -/
def pb (f : Nat → Nat) (t : Nat) : Nat → Nat | 0 => 0 | k + 1 => pb f t k * 256 + f (4 * t + k)
theorem pb_four (f : Nat → Nat) (t : Nat) : pb f t 4 = be4 f t := by unfold be4; simp only [pb, Nat.add_zero]; omega
theorem pb_lt {f : Nat → Nat} (hf : ∀ j, f j < 256) (t : Nat) : ∀ k, pb f t k < 256 ^ k
  | 0 => by simp [pb]
  | k + 1 => by
    have h1 := pb_lt hf t k
    have h2 := hf (4 * t + k)
    unfold pb
    rw [Nat.pow_succ]
    omega
theorem pb_B {f : Nat → Nat} (hf : ∀ j, f j < 256) (t : Nat) {k : Nat} (hk : k ≤ 4) : pb f t k < B :=
  Nat.lt_of_lt_of_le (pb_lt hf t k) (by rw [show B = 256 ^ 4 by decide]; exact Nat.pow_le_pow_right (by decide) hk)
theorem be4_lt {f : Nat → Nat} (hf : ∀ j, f j < 256) (t : Nat) : be4 f t < B := by rw [← pb_four]; exact pb_B hf t (by omega)
def nx (f : Nat → Nat) (t : Nat) (l : List Nat) : Nat :=
  if t < 16 then be4 f t else ad (ad (ad (sg1 (l.getD (t - 2) 0)) (l.getD (t - 7) 0)) (sg0 (l.getD (t - 15) 0))) (l.getD (t - 16) 0)
def wl (f : Nat → Nat) : Nat → List Nat | 0 => [] | t + 1 => wl f t ++ [nx f t (wl f t)]
/-- Word t of the schedule. -/
def wv (f : Nat → Nat) (t : Nat) : Nat := nx f t (wl f t)
theorem wl_len (f : Nat → Nat) : ∀ t, (wl f t).length = t | 0 => rfl | t + 1 => by unfold wl; rw [List.length_append, wl_len f t]; rfl
theorem wl_get (f : Nat → Nat) : ∀ {t j : Nat}, j < t → (wl f t).getD j 0 = wv f j
  | t + 1, j, h => by
    unfold wl
    by_cases e : j = t
    · subst e
      simp [List.getD, List.getElem?_append_right, wl_len, wv]
    · have hj : j < t := by omega
      have := wl_get f hj
      simp only [List.getD] at this ⊢
      rw [List.getElem?_append_left (by rw [wl_len]; exact hj)]
      exact this
theorem wv_lo (f : Nat → Nat) {t : Nat} (h : t < 16) : wv f t = be4 f t := by unfold wv nx; rw [if_pos h]
theorem wv_hi (f : Nat → Nat) {t : Nat} (h : 16 ≤ t) : wv f t = ad (ad (ad (sg1 (wv f (t - 2))) (wv f (t - 7))) (sg0 (wv f (t - 15)))) (wv f (t - 16)) := by
  show nx f t (wl f t) = _
  unfold nx
  rw [if_neg (by omega), wl_get f (by omega), wl_get f (by omega), wl_get f (by omega), wl_get f (by omega)]
theorem wv_lt {f : Nat → Nat} (hf : ∀ j, f j < 256) (t : Nat) : wv f t < B := by
  by_cases h : t < 16
  · rw [wv_lo f h]; exact be4_lt hf t
  · rw [wv_hi f (by omega)]; exact ad_lt _ _

structure St where
  a : Nat
  b : Nat
  c : Nat
  d : Nat
  e : Nat
  f : Nat
  g : Nat
  h : Nat
structure St.Ok (s : St) : Prop where
  a : s.a < B
  b : s.b < B
  c : s.c < B
  d : s.d < B
  e : s.e < B
  f : s.f < B
  g : s.g < B
  h : s.h < B
def t1 (k w : Nat) (s : St) : Nat := ad (ad (ad (ad s.h (S1 s.e)) (ch s.e s.f s.g)) k) w
def t2 (s : St) : Nat := ad (S0 s.a) (mj s.a s.b s.c)
def step (k w : Nat) (s : St) : St := ⟨ad (t1 k w s) (t2 s), s.a, s.b, s.c, ad s.d (t1 k w s), s.e, s.f, s.g⟩
theorem step_ok {k w : Nat} {s : St} (h : s.Ok) : (step k w s).Ok := ⟨ad_lt _ _, h.a, h.b, h.c, ad_lt _ _, h.e, h.f, h.g⟩
def rnd (k w : Nat → Nat) (s : St) : Nat → St | 0 => s | n + 1 => step (k n) (w n) (rnd k w s n)
theorem rnd_ok {k w : Nat → Nat} {s : St} (h : s.Ok) : ∀ n, (rnd k w s n).Ok | 0 => h | n + 1 => step_ok (rnd_ok h n)
def addS (v s : St) : St := ⟨ad v.a s.a, ad v.b s.b, ad v.c s.c, ad v.d s.d, ad v.e s.e, ad v.f s.f, ad v.g s.g, ad v.h s.h⟩
theorem addS_ok (v s : St) : (addS v s).Ok := ⟨ad_lt _ _, ad_lt _ _, ad_lt _ _, ad_lt _ _, ad_lt _ _, ad_lt _ _, ad_lt _ _, ad_lt _ _⟩
/-- The state behind a block. -/
def blk (k : Nat → Nat) (s : St) (f : Nat → Nat) : St := addS (rnd k (wv f) s 64) s
/-- The state behind m blocks. -/
def hs (k : Nat → Nat) (s0 : St) (f : Nat → Nat) : Nat → St | 0 => s0 | m + 1 => blk k (hs k s0 f m) (fun j => f (64 * m + j))
theorem hs_ok {k : Nat → Nat} {s0 : St} {f : Nat → Nat} (h : s0.Ok) : ∀ m, (hs k s0 f m).Ok | 0 => h | _ + 1 => addS_ok _ _
/-- Word i of a state. -/
def St.at (s : St) (i : Nat) : Nat := match i with | 0 => s.a | 1 => s.b | 2 => s.c | 3 => s.d | 4 => s.e | 5 => s.f | 6 => s.g | _ => s.h
theorem St.at_lt {s : St} (h : s.Ok) (i : Nat) : s.at i < B := by
  unfold St.at
  split
  · exact h.a
  · exact h.b
  · exact h.c
  · exact h.d
  · exact h.e
  · exact h.f
  · exact h.g
  · exact h.h
/-- Byte i of a state, the greatest first. -/
def sb (s : St) (i : Nat) : Nat := s.at (i / 4) / 2 ^ (24 - 8 * (i % 4)) % 256
theorem sb_lt (s : St) (i : Nat) : sb s i < 256 := Nat.mod_lt _ (by decide)

/-- The zeros between the mark and the length. -/
def zs (n : Nat) : Nat := (119 - n % 64) % 64
/-- The message of n bytes f, padded. -/
def pd (f : Nat → Nat) (n j : Nat) : Nat := if j < n then f j else if j = n then 128 else if j ≤ n + zs n then 0 else 8 * n / 256 ^ (7 - (j - (n + zs n + 1))) % 256
def blocks (n : Nat) : Nat := (n + zs n + 9) / 64
theorem blocks_eq (n : Nat) : 64 * blocks n = n + zs n + 9 := by unfold blocks zs; omega
/-- The sum, as a state. -/
def sumS (k : Nat → Nat) (s0 : St) (f : Nat → Nat) (n : Nat) : St := hs k s0 (pd f n) (blocks n)

theorem wl_congr {f g : Nat → Nat} (h : ∀ j, j < 64 → f j = g j) : ∀ t, t ≤ 64 → wl f t = wl g t
  | 0, _ => rfl
  | t + 1, ht => by
    have e : nx f t (wl g t) = nx g t (wl g t) := by
      unfold nx
      by_cases h16 : t < 16
      · rw [if_pos h16, if_pos h16]; unfold be4; rw [h (4 * t) (by omega), h (4 * t + 1) (by omega), h (4 * t + 2) (by omega), h (4 * t + 3) (by omega)]
      · rw [if_neg h16, if_neg h16]
    show wl f t ++ [nx f t (wl f t)] = wl g t ++ [nx g t (wl g t)]
    rw [wl_congr h t (by omega), e]
theorem wv_congr {f g : Nat → Nat} (h : ∀ j, j < 64 → f j = g j) {t : Nat} (ht : t < 64) : wv f t = wv g t := by
  have := wl_congr h (t + 1) (by omega)
  have e := congrArg (fun l => l.getD t 0) this
  rwa [wl_get f (Nat.lt_succ_self t), wl_get g (Nat.lt_succ_self t)] at e
theorem rnd_congr {k : Nat → Nat} {s : St} {w w' : Nat → Nat} : ∀ n, (∀ j, j < n → w j = w' j) → rnd k w s n = rnd k w' s n
  | 0, _ => rfl
  | n + 1, h => by unfold rnd; rw [rnd_congr n (fun j hj => h j (by omega)), h n (by omega)]
theorem blk_congr {k : Nat → Nat} {s : St} {f g : Nat → Nat} (h : ∀ j, j < 64 → f j = g j) : blk k s f = blk k s g := by
  unfold blk
  rw [rnd_congr 64 (fun j hj => wv_congr h hj)]
theorem hs_congr {k : Nat → Nat} {s0 : St} {f g : Nat → Nat} : ∀ m, (∀ j, j < 64 * m → f j = g j) → hs k s0 f m = hs k s0 g m
  | 0, _ => rfl
  | m + 1, h => by
    unfold hs
    rw [hs_congr m (fun j hj => h j (by omega))]
    exact blk_congr fun j hj => h _ (by omega)
end Go.Proofs.YtdaggankfokloaaDoor
