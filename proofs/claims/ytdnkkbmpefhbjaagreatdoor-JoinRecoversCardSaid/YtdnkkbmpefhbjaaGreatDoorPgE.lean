/- Part 5 of what the proof of JoinRecovers needs: joined out of the texts of this seat, only what is used. -/
import Derived.Test.YtdnkkbmpefhbjaaGreatDoorPgD
import Derived.Lib.AppendZerosOnto
import Derived.Laws.Cover3
import Derived.Test.YtdnkkbmpefhbjaaGreatDoorRows
import Derived.WalkKit
import Derived.ProofKit
import Derived.LaidMore
import Derived.OpenShut
import Derived.ShutString
import Derived.ChangeOld
import Derived.Below
namespace Go.Proofs.YtdnkkbmpefhbjaaGreatDoor
set_option linter.all false
open Go Go.RowKit Alg
section
variable {s : Bool}
/-- The sum of the c k * f k below n. -/
def Sg (c f : Nat → Zp s) : Nat → Zp s
  | 0 => 0
  | k + 1 => Sg c f k + c k * f k
theorem Sg_ev (c : Nat → Zp s) (z : Zp s) : ∀ n, rEv c z n = Sg c (pw z) n
  | 0 => rfl
  | n + 1 => by show rEv c z n + _ = Sg c (pw z) n + _; rw [Sg_ev c z n]
theorem Sg_congr {c d f : Nat → Zp s} : ∀ {n : Nat}, (∀ k, k < n → c k = d k) → Sg c f n = Sg d f n
  | 0, _ => rfl
  | n + 1, h => by show Sg c f n + _ = Sg d f n + _; rw [Sg_congr fun k hk => h k (by omega), h n (by omega)]
theorem Sg_zero {c f : Nat → Zp s} : ∀ {n : Nat}, (∀ k, k < n → c k = 0) → Sg c f n = 0
  | 0, _ => rfl
  | n + 1, h => by show Sg c f n + c n * f n = 0; rw [Sg_zero fun k hk => h k (by omega), h n (by omega)]; grind
theorem Sg_add (c d f : Nat → Zp s) (e : Zp s) : ∀ n, Sg (fun k => c k + e * d k) f n = Sg c f n + e * Sg d f n
  | 0 => by show (0 : Zp s) = 0 + e * 0; grind
  | n + 1 => by show Sg _ f n + (c n + e * d n) * f n = Sg c f n + c n * f n + e * (Sg d f n + d n * f n); rw [Sg_add c d f e n]; grind
theorem Sg_upd (g f : Nat → Zp s) (e : Zp s) (i : Nat) : ∀ n, Sg (fun j => if j = i then g j + e else g j) f n = Sg g f n + if i < n then e * f i else 0
  | 0 => by rw [if_neg (Nat.not_lt_zero i)]; show (0 : Zp s) = 0 + 0; grind
  | n + 1 => by
    show Sg _ f n + (if n = i then g n + e else g n) * f n = Sg g f n + g n * f n + _
    rw [Sg_upd g f e i n]
    by_cases h : n = i
    · subst h; rw [if_neg (Nat.lt_irrefl _), if_pos rfl, if_pos (Nat.lt_succ_self _)]; grind
    · rw [if_neg h]
      by_cases l : i < n
      · rw [if_pos l, if_pos (by omega)]; grind
      · rw [if_neg l, if_neg (by omega)]; grind
/-- A product with X - b. -/
theorem Sg_lin (c f : Nat → Zp s) (b : Zp s) (N : Nat) : ∀ n, n + 1 ≤ N → Sg (mall c (lin b) 2 n) f N = Sg c (fun k => f (k + 1) - b * f k) n
  | 0, _ => Sg_zero fun _ _ => rfl
  | n + 1, h => by
    have ih := Sg_lin c f b N n (by omega)
    show Sg (fun j => if j = n + 1 then (if j = n then mall c (lin b) 2 n j + c n * lin b 0 else mall c (lin b) 2 n j) + c n * lin b 1 else (if j = n then mall c (lin b) 2 n j + c n * lin b 0 else mall c (lin b) 2 n j)) f N = Sg c _ n + c n * (f (n + 1) - b * f n)
    rw [Sg_upd (fun j => if j = n then mall c (lin b) 2 n j + c n * lin b 0 else mall c (lin b) 2 n j), Sg_upd (mall c (lin b) 2 n), if_pos (by omega), if_pos (by omega), ih]
    show _ + c n * (0 - b) * f n + c n * 1 * f (n + 1) = _
    grind
theorem Sg_pw (c : Nat → Zp s) (z b : Zp s) : ∀ n, Sg c (fun k => pw z (k + 1) - b * pw z k) n = (z - b) * Sg c (pw z) n
  | 0 => by show (0 : Zp s) = (z - b) * 0; grind
  | n + 1 => by
    show Sg c _ n + c n * (pw z n * z - b * pw z n) = (z - b) * (Sg c (pw z) n + c n * pw z n)
    rw [Sg_pw c z b n]; grind
/-- (z^k - a^k) / (z - a). -/
def psi (a z : Zp s) : Nat → Zp s
  | 0 => 0
  | k + 1 => psi a z k * a + pw z k
theorem Sg_dp (c : Nat → Zp s) (z b : Zp s) : ∀ n, Sg c (fun k => psi z z (k + 1) - b * psi z z k) n = (z - b) * Sg c (psi z z) n + Sg c (pw z) n
  | 0 => by show (0 : Zp s) = (z - b) * 0 + 0; grind
  | n + 1 => by
    show Sg c _ n + c n * (psi z z n * z + pw z n - b * psi z z n) = (z - b) * (Sg c (psi z z) n + c n * psi z z n) + (Sg c (pw z) n + c n * pw z n)
    rw [Sg_dp c z b n]; grind
theorem psi_eq (a z : Zp s) : ∀ k, (z - a) * psi a z k = pw z k - pw a k
  | 0 => by show (z - a) * 0 = 1 - 1; grind
  | k + 1 => by
    have ih := psi_eq a z k
    show (z - a) * (psi a z k * a + pw z k) = pw z k * z - pw a k * a
    grind
theorem Sg_psi (c : Nat → Zp s) (a z : Zp s) : ∀ n, (z - a) * Sg c (psi a z) n = Sg c (pw z) n - Sg c (pw a) n
  | 0 => by show (z - a) * 0 = (0 : Zp s) - 0; grind
  | n + 1 => by
    have ih := Sg_psi c a z n
    have h := psi_eq a z n
    show (z - a) * (Sg c (psi a z) n + c n * psi a z n) = Sg c (pw z) n + c n * pw z n - (Sg c (pw a) n + c n * pw a n)
    grind
/-- Horner's partial values are the coefficients of the quotient. -/
theorem Hn_part (c : Nat → Zp s) (a z : Zp s) (n : Nat) : ∀ j, j ≤ n + 1 → Sg c (psi a z) (n + 1) - Sg c (psi a z) (n + 1 - j) = Sg (fun k => Hn c (n + 1) a (n - k)) (pw z) (n + 1) - Sg (fun k => Hn c (n + 1) a (n - k)) (pw z) (n + 1 - j) + Hn c (n + 1) a j * psi a z (n + 1 - j)
  | 0, _ => by show Sg c _ (n + 1) - Sg c _ (n + 1) = Sg _ _ (n + 1) - Sg _ _ (n + 1) + 0 * _; grind
  | j + 1, h => by
    have ih := Hn_part c a z n j (by omega)
    obtain ⟨m, hm⟩ : ∃ m, n = m + j := ⟨n - j, by omega⟩
    rw [show n + 1 - j = m + 1 by omega] at ih
    rw [show n + 1 - (j + 1) = m by omega]
    have e1 : Sg c (psi a z) (m + 1) = Sg c (psi a z) m + c m * psi a z m := rfl
    have e2 : Sg (fun k => Hn c (n + 1) a (n - k)) (pw z) (m + 1) = Sg (fun k => Hn c (n + 1) a (n - k)) (pw z) m + Hn c (n + 1) a j * pw z m := by
      show _ + Hn c (n + 1) a (n - m) * _ = _
      rw [show n - m = j by omega]
    have e3 : Hn c (n + 1) a (j + 1) = Hn c (n + 1) a j * a + c m := by
      show _ + c (n + 1 - 1 - j) = _
      rw [show n + 1 - 1 - j = m by omega]
    have e4 : psi a z (m + 1) = psi a z m * a + pw z m := rfl
    rw [e1, e2, e4] at ih
    rw [e3]
    generalize Sg c (psi a z) (n + 1) = A1 at *
    generalize Sg c (psi a z) m = A2 at *
    generalize Sg (fun k => Hn c (n + 1) a (n - k)) (pw z) (n + 1) = A3 at *
    generalize Sg (fun k => Hn c (n + 1) a (n - k)) (pw z) m = A4 at *
    grind
theorem Hn_quo (c : Nat → Zp s) (a z : Zp s) (n : Nat) : Sg (fun k => Hn c (n + 1) a (n - k)) (pw z) n = Sg c (psi a z) (n + 1) := by
  have h := Hn_part c a z n (n + 1) (Nat.le_refl _)
  rw [Nat.sub_self] at h
  have e : Sg (fun k => Hn c (n + 1) a (n - k)) (pw z) (n + 1) = Sg (fun k => Hn c (n + 1) a (n - k)) (pw z) n + 0 * pw z n := by
    show _ + Hn c (n + 1) a (n - n) * _ = _
    rw [Nat.sub_self]; rfl
  rw [e] at h
  have h0 : Sg c (psi a z) 0 = 0 := rfl
  have h1 : Sg (fun k => Hn c (n + 1) a (n - k)) (pw z) 0 = 0 := rfl
  have h2 : psi a z 0 = 0 := rfl
  rw [h0, h1, h2] at h
  grind
/-- Horner's last value is the value. -/
theorem Hn_top (c : Nat → Zp s) (z : Zp s) (n : Nat) : ∀ j, j ≤ n → Sg c (pw z) n = Sg c (pw z) (n - j) + Hn c n z j * pw z (n - j)
  | 0, _ => by show _ = _ + 0 * _; grind
  | j + 1, h => by
    have ih := Hn_top c z n j (by omega)
    obtain ⟨m, hm⟩ : ∃ m, n = m + (j + 1) := ⟨n - (j + 1), by omega⟩
    rw [show n - j = m + 1 by omega] at ih
    rw [show n - (j + 1) = m by omega, ih]
    show Sg c (pw z) m + c m * pw z m + Hn c n z j * (pw z m * z) = Sg c (pw z) m + (Hn c n z j * z + c (n - 1 - j)) * pw z m
    rw [show n - 1 - j = m by omega]
    grind
theorem Hn_ev (c : Nat → Zp s) (z : Zp s) (n : Nat) : Hn c n z n = Sg c (pw z) n := by
  have h := Hn_top c z n n (Nat.le_refl _)
  rw [Nat.sub_self] at h
  have e : Sg c (pw z) 0 = 0 := rfl
  have e2 : pw z 0 = 1 := rfl
  rw [e, e2] at h
  grind
/-! The product of the X - x i. -/
def Pd (x : Nat → Zp s) (z : Zp s) : Nat → Zp s
  | 0 => 1
  | k + 1 => (z - x k) * Pd x z k
theorem mst_ev (x : Nat → Zp s) (z : Zp s) : ∀ k, Sg (mst x k) (pw z) (k + 1) = Pd x z k
  | 0 => by show (0 : Zp s) + 1 * 1 = 1; grind
  | k + 1 => by
    show Sg (mall (mst x k) (lin (x k)) 2 (k + 1)) (pw z) (k + 2) = _
    rw [Sg_lin _ _ _ _ _ (Nat.le_refl _), Sg_pw, mst_ev x z k]; rfl
theorem mst_d (x : Nat → Zp s) (z : Zp s) (k : Nat) : Sg (mst x (k + 1)) (psi z z) (k + 2) = (z - x k) * Sg (mst x k) (psi z z) (k + 1) + Pd x z k := by
  show Sg (mall (mst x k) (lin (x k)) 2 (k + 1)) (psi z z) (k + 2) = _
  rw [Sg_lin _ _ _ _ _ (Nat.le_refl _), Sg_dp, mst_ev]
theorem Pd_zero (x : Nat → Zp s) (u : Nat) : ∀ k, u < k → Pd x (x u) k = 0
  | k + 1, h => by
    show (x u - x k) * Pd x (x u) k = 0
    by_cases e : u = k
    · subst e; grind
    · rw [Pd_zero x u k (by omega)]; grind
theorem Pd_wr (x : Nat → Zp s) (u : Nat) : ∀ k, k ≤ u → Pd x (x u) k = wr x u k
  | 0, _ => rfl
  | k + 1, h => by
    show (x u - x k) * Pd x (x u) k = if k = u then _ else wr x u k * (x u - x k)
    rw [if_neg (by omega), Pd_wr x u k (by omega)]; grind
theorem mst_wr (x : Nat → Zp s) (u : Nat) : ∀ k, u < k → Sg (mst x k) (psi (x u) (x u)) (k + 1) = wr x u k
  | k + 1, h => by
    rw [mst_d]
    show _ = if k = u then wr x u k else wr x u k * (x u - x k)
    by_cases e : k = u
    · subst e; rw [if_pos rfl, Pd_wr x k k (Nat.le_refl _)]; grind
    · rw [if_neg e, mst_wr x u k (by omega), Pd_zero x u k (by omega)]; grind
/-! Elements of which the power p - 1 is one. -/
def Fm (d : Zp s) : Prop := pw d (pr s - 1) = 1
theorem pr_ge (s : Bool) : 2 ≤ pr s := by cases s <;> decide
theorem Fm.one : Fm (1 : Zp s) := pw_of_one _
theorem Fm.mul {d e : Zp s} (h : Fm d) (k : Fm e) : Fm (d * e) := by unfold Fm at *; rw [pw_prod, h, k]; grind
theorem Fm.inv {d : Zp s} (h : Fm d) : zinv d * d = 1 := by
  have e : pr s - 1 = pr s - 2 + 1 := by have := pr_ge s; omega
  unfold Fm at h
  rw [e] at h
  exact h
theorem Fm.un {d : Zp s} (h : Fm d) : Un d := ⟨_, h.inv⟩
theorem one_ne (s : Bool) : (1 : Zp s) ≠ 0 := fun h => by have := congrArg Fin.val h; rw [one_val, Fin.val_zero] at this; omega
theorem Fm.ne {d : Zp s} (h : Fm d) : d ≠ 0 := fun e => by have h1 := h.inv; rw [e] at h1; exact one_ne s (by grind)
theorem pw_sq (d : Zp s) (n : Nat) : pw d (2 * n) = pw (d * d) n := by
  rw [← pw_pw]
  congr 1
  show 1 * d * d = d * d
  grind
theorem Fm.neg {d : Zp s} (h : Fm d) : Fm (0 - d) := by
  have e : pr s - 1 = 2 * ((pr s - 1) / 2) := by cases s <;> decide
  unfold Fm at *
  rw [e, pw_sq] at h ⊢
  rw [show (0 - d) * (0 - d) = d * d by grind]
  exact h
theorem wr_Fm {x : Nat → Zp s} {u n : Nat} (h : ∀ k, k < n → k ≠ u → Fm (x u - x k)) : ∀ k, k ≤ n → Fm (wr x u k)
  | 0, _ => Fm.one
  | k + 1, hk => by
    show Fm (if k = u then _ else _)
    by_cases e : k = u
    · rw [if_pos e]; exact wr_Fm h k (by omega)
    · rw [if_neg e]; exact (wr_Fm h k (by omega)).mul (h k (by omega) e)
/-! Batch's inverses. -/
theorem nz_of {d : Zp s} (h : Fm d) : nz d = d := by unfold nz; rw [if_neg h.ne]
theorem Pp_Fm {x : Nat → Zp s} {n : Nat} (h : ∀ k, k < n → Fm (x k)) : ∀ k, k ≤ n → Fm (Pp x k)
  | 0, _ => Fm.one
  | k + 1, hk => by show Fm (Pp x k * nz (x k)); rw [nz_of (h k (by omega))]; exact (Pp_Fm h k (by omega)).mul (h k (by omega))
theorem Iv_Pp {x : Nat → Zp s} {n : Nat} (h : ∀ k, k < n → Fm (x k)) : ∀ j, j ≤ n → Iv x n j * Pp x (n - j) = 1
  | 0, _ => (Pp_Fm h n (Nat.le_refl _)).inv
  | j + 1, hj => by
    have ih := Iv_Pp h j (by omega)
    obtain ⟨m, hm⟩ : ∃ m, n = m + (j + 1) := ⟨n - (j + 1), by omega⟩
    rw [show n - j = m + 1 by omega] at ih
    rw [show n - (j + 1) = m by omega]
    show Iv x n j * nz (x (n - 1 - j)) * Pp x m = 1
    rw [show n - 1 - j = m by omega]
    have e : Pp x (m + 1) = Pp x m * nz (x m) := rfl
    rw [e] at ih
    grind
theorem binv_mul {x : Nat → Zp s} {n i : Nat} (h : ∀ k, k < n → Fm (x k)) (hi : i < n) : binv x n i * x i = 1 := by
  have e := Iv_Pp h (n - 1 - i) (by omega)
  rw [show n - (n - 1 - i) = i + 1 by omega] at e
  have e2 : Pp x (i + 1) = Pp x i * nz (x i) := rfl
  rw [e2, nz_of (h i hi)] at e
  unfold binv
  rw [if_neg (h i hi).ne]
  grind
/-! Interpolation. -/
/-- The first n points lie apart. -/
def Fap (x : Nat → Zp s) (n : Nat) : Prop := ∀ i k, i < n → k < n → i ≠ k → Fm (x i - x k)
theorem Fap.le {x : Nat → Zp s} {n m : Nat} (h : Fap x n) (hm : m ≤ n) : Fap x m := fun i k hi hk => h i k (by omega) (by omega)
variable {x y : Nat → Zp s} {n : Nat}
theorem itp_at (h : Fap x n) {j : Nat} (hj : j < n) : ∀ m, m ≤ n → Sg (itp x y n m) (pw (x j)) n = if j < m then y j else 0
  | 0, _ => by rw [if_neg (Nat.not_lt_zero j)]; exact Sg_zero fun _ _ => rfl
  | u + 1, hu => by
    have ih := itp_at h hj u (by omega)
    have e : Sg (itp x y n (u + 1)) (pw (x j)) n = Sg (itp x y n u) (pw (x j)) n + wgt x n u * y u * Sg (mst x n) (psi (x u) (x j)) (n + 1) := by
      rw [← Hn_quo]
      exact Sg_add _ _ _ _ n
    rw [e, ih]
    by_cases hju : j = u
    · subst hju
      rw [if_neg (Nat.lt_irrefl j), if_pos (Nat.lt_succ_self j), mst_wr x j n hj]
      have hw : wgt x n j * wr x j n = 1 := binv_mul (x := fun i => wr x i n) (fun k hk => wr_Fm (fun k' hk' hne => h k k' hk hk' (Ne.symm hne)) n (Nat.le_refl n)) hj
      grind
    · have h0 : (x j - x u) * Sg (mst x n) (psi (x u) (x j)) (n + 1) = 0 := by
        rw [Sg_psi, mst_ev, mst_ev, Pd_zero x j n hj, Pd_zero x u n (by omega)]; grind
      rw [(h j u hj (by omega) hju).un.zero h0]
      by_cases l : j < u
      · rw [if_pos l, if_pos (by omega)]; grind
      · rw [if_neg l, if_neg (by omega)]; grind
/-- The program's polynomial has the values. -/
theorem itp_val (h : Fap x n) {j : Nat} (hj : j < n) : Sg (itp x y n n) (pw (x j)) n = y j := by rw [itp_at h hj n (Nat.le_refl n), if_pos hj]
/-! Uniqueness. -/
def lsf (c : Nat → Zp s) (n : Nat) : List (Zp s) := (List.range n).map c
theorem lsf_ev (c : Nat → Zp s) (z : Zp s) : ∀ n, Alg.ev (lsf c n) z = Sg c (pw z) n
  | 0 => rfl
  | n + 1 => by
    unfold lsf
    rw [List.range_succ, List.map_append, List.map_singleton, ev_app, List.length_map, List.length_range]
    show Alg.ev (lsf c n) z + _ = _
    rw [lsf_ev c z n]; rfl
theorem same_val {c d : Nat → Zp s} (h : Fap x n) (hv : ∀ j, j < n → Sg c (pw (x j)) n = Sg d (pw (x j)) n) {k : Nat} (hk : k < n) : c k = d k := by
  have hA : Ap ((List.range n).map x) := by
    unfold Ap
    rw [List.pairwise_map]
    refine List.Pairwise.imp_of_mem ?_ (List.pairwise_lt_range (n := n))
    intro i j hi hj hij
    exact (h j i (List.mem_range.1 hj) (List.mem_range.1 hi) (by omega)).un
  have e := Alg.same_of ((List.range n).map x) (lsf c n) (lsf d n) hA (by simp [lsf]) (by simp [lsf]) (fun z hz => by
    obtain ⟨j, hj, rfl⟩ := List.mem_map.1 hz
    rw [lsf_ev, lsf_ev]
    exact hv j (List.mem_range.1 hj))
  have e2 := congrArg (fun l => l[k]?) e
  simpa [lsf, hk] using e2
/-- A polynomial with the values is the program's. -/
theorem itp_of {c : Nat → Zp s} (h : Fap x n) (hv : ∀ j, j < n → Sg c (pw (x j)) n = y j) {k : Nat} (hk : k < n) : itp x y n n k = c k := same_val h (fun j hj => by rw [itp_val h hj, hv j hj]) hk
theorem dot_itp : ∀ m, 1 ≤ n → dot (zw x n) y m = itp x y n m 0
  | 0, _ => rfl
  | m + 1, h => by
    show dot (zw x n) y m + wgt x n m * Hn (mst x n) (n + 1) (x m) n * y m = itp x y n m 0 + wgt x n m * y m * Hn (mst x n) (n + 1) (x m) (n + 1 - 1 - 0)
    rw [dot_itp m h]
    show _ = itp x y n m 0 + wgt x n m * y m * Hn (mst x n) (n + 1) (x m) n
    grind
end
end Go.Proofs.YtdnkkbmpefhbjaaGreatDoor
namespace Go.Proofs.YtdnkkbmpefhbjaaGreatDoor
set_option linter.all false
open Go Go.RowKit Alg
end Go.Proofs.YtdnkkbmpefhbjaaGreatDoor
namespace Go.Proofs.YtdnkkbmpefhbjaaGreatDoor
set_option linter.all false
open Go Go.RowKit Alg
end Go.Proofs.YtdnkkbmpefhbjaaGreatDoor
namespace Go.Proofs.YtdnkkbmpefhbjaaGreatDoor
set_option linter.all false
open Go Go.RowKit Alg
/-- a ^ (e / 2^(256-j)) modulo p, by squaring. -/
def fpw (p a e : Nat) : Nat → Nat
  | 0 => 1
  | j + 1 => (fpw p a e j) ^ 2 * a ^ (e / 2 ^ (255 - j) % 2) % p
theorem fpw_val {s : Bool} (x : Zp s) (e : Nat) (he : e < R4) : ∀ j, j ≤ 256 → fpw (pr s) x.val e j = (pw x (e / 2 ^ (256 - j))).val
  | 0, _ => by
    rw [show e / 2 ^ (256 - 0) = 0 from Nat.div_eq_of_lt he]
    exact one_val.symm
  | j + 1, hj => by
    have ih := fpw_val x e he j (by omega)
    show (fpw (pr s) x.val e j) ^ 2 * x.val ^ (e / 2 ^ (255 - j) % 2) % pr s = _
    rw [ih, show 256 - (j + 1) = 255 - j by omega]
    have e1 : e / 2 ^ (256 - j) = e / 2 ^ (255 - j) / 2 := by rw [show 256 - j = (255 - j) + 1 by omega, Nat.pow_succ, Nat.div_div_eq_div_mul]
    rw [e1]
    generalize e / 2 ^ (255 - j) = q
    rcases Nat.mod_two_eq_zero_or_one q with h | h
    · obtain ⟨m, rfl⟩ : ∃ m, q = 2 * m := ⟨q / 2, by omega⟩
      rw [h, show 2 * m / 2 = m by omega, Nat.pow_zero, Nat.mul_one, pw_sq, pw_prod, Nat.pow_two]
      exact (Fin.val_mul _ _).symm
    · obtain ⟨m, rfl⟩ : ∃ m, q = 2 * m + 1 := ⟨q / 2, by omega⟩
      rw [h, show (2 * m + 1) / 2 = m by omega, Nat.pow_one, Nat.pow_two]
      have e2 : pw x (2 * m + 1) = pw x m * pw x m * x := by show pw x (2 * m) * x = _; rw [pw_sq, pw_prod]
      rw [e2, Fin.val_mul, Fin.val_mul, Nat.mod_mul_mod]
theorem fm_all : (List.range 254).all (fun d => fpw (pr false) (d + 1) (pr false - 1) 256 == 1 && fpw (pr true) (d + 1) (pr true - 1) 256 == 1) = true := by decide +kernel
theorem pr_1000 (s : Bool) : 1000 < pr s := by cases s <;> decide
theorem fm_small {s : Bool} {d : Nat} (h1 : 1 ≤ d) (h2 : d ≤ 254) : Fm (zn s d) := by
  have h := List.all_eq_true.1 fm_all (d - 1) (List.mem_range.2 (by omega))
  rw [show d - 1 + 1 = d by omega, Bool.and_eq_true, beq_iff_eq, beq_iff_eq] at h
  have hp := pr_1000 s
  have hv : (zn s d).val = d := Nat.mod_eq_of_lt (by omega)
  have hr := pr_lt s
  have e := fpw_val (zn s d) (pr s - 1) (by omega) 256 (Nat.le_refl _)
  rw [hv, Nat.sub_self, Nat.pow_zero, Nat.div_one] at e
  have e1 : fpw (pr s) d (pr s - 1) 256 = 1 := by cases s; exact h.1; exact h.2
  rw [e1] at e
  exact Fin.ext (e.symm.trans one_val.symm)
theorem zn_sub {s : Bool} {a b : Nat} (h : b ≤ a) : zn s a - zn s b = zn s (a - b) := by
  have e : zn s a = zn s (a - b) + zn s b := by
    unfold zn
    apply Fin.ext
    rw [Fin.val_add]
    simp only [Fin.val_ofNat]
    rw [← Nat.add_mod, Nat.sub_add_cancel h]
  rw [e]
  grind
theorem pt_fm {s : Bool} {a b : Nat} (h : a ≠ b) (ha1 : 1 ≤ a) (ha2 : a ≤ 255) (hb1 : 1 ≤ b) (hb2 : b ≤ 255) : Fm (zn s a - zn s b) := by
  by_cases l : b ≤ a
  · rw [zn_sub l]; exact fm_small (by omega) (by omega)
  · rw [show zn s a - zn s b = 0 - (zn s b - zn s a) by grind, zn_sub (by omega)]
    exact (fm_small (by omega) (by omega)).neg
section
variable {s : Bool} {S : Nat → Shr} {m : Nat} (g : Good s S m)
include g
theorem Good.fap : Fap (pt s (vI S)) m := fun i k hi hk h => by
  have a1 := g.v_le i hi
  have a2 := g.v_le k hk
  refine pt_fm ?_ a1.1 a1.2 a2.1 a2.2
  rcases Nat.lt_or_gt_of_ne h with l | l
  · exact g.v_ne i k l hk
  · exact (g.v_ne k i l hi).symm
end
end Go.Proofs.YtdnkkbmpefhbjaaGreatDoor
namespace Go.Proofs.YtdnkkbmpefhbjaaGreatDoor
set_option linter.all false
open Go Go.RowKit Alg
/-- The value of a chunk at zero, and elsewhere. -/
def valZ (s : Bool) (S : Nat → Shr) (m ch : Nat) : Zp s := dot (zw (pt s (vI S)) m) (clz s S ch) m
def atZ (s : Bool) (S : Nat → Shr) (m : Nat) (x : Zp s) (ch : Nat) : Zp s := Hn (itp (pt s (vI S)) (clz s S ch) m m) m x m
theorem coef_len3 {m : Nat} : (upE 0 (m : Int) coefE).length ≤ m := by rw [coefU_len]; exact Nat.le_refl m
theorem vals_f (s : Bool) (S : Nat → Shr) (m zc bt bf bz : Nat) (za : Option Addr) (t : Option Nat) (hm : m ≤ 255) : FunC (82, [.pointer (some ⟨bt, 0, none⟩), .pointer (some ⟨bf, 0, none⟩), .pointer (some ⟨bz, 0, none⟩)]) s S m t (valZ s S m) (upE 0 (m : Int) coefE) (rall [blk bt [tval t] 60, blk bf (fieldL s) 120, blk bz [.slice za m zc] 51, lst 4 (.slice za m zc) m (en vq (fun i => mq ((zw (pt s (vI S)) m) i)) m)]) := by
 refine ⟨_, Tryz.func82, fo82, fun F0 W M R w0 ya yc ch evs r hT hx hC hch he hs => ?_⟩
 refine c_enter (args := [.slice ya m yc, .pointer (some ⟨bt, 0, none⟩), .pointer (some ⟨bf, 0, none⟩), .pointer (some ⟨bz, 0, none⟩)]) Tryz.func82 rfl rfl rfl fun a hk => ?_
 refine wS (wR ?_)
 refine q_alc (vs := [.int .u64 0, .int .u64 0, .int .u64 0, .int .u64 0]) hk hs zr56 rfl rfl rfl fun b1 w a hk hs => ?_
 refine q_v hk (w_as rfl) fun a hk => ?_
 refine c_end (x_t (wS (wR ?_)))
 refine q_v hk (w_ld1 rfl ty60 (.blk (n := 1) ((hx.pi 0 rfl).at_ hs) rfl)) fun a hk => ?_
 refine q_v hk (w_ldA rfl ty120 (.blk (n := 14) ((hx.pi 1 rfl).at_ hs) rfl) rfl) fun a hk => ?_
 refine q_v hk (w_ld1 rfl ty51 (.blk (n := 1) ((hx.pi 2 rfl).at_ hs) rfl)) fun a hk => ?_
 refine q_v hk (w_mv rfl) fun a hk => ?_
 have hs := hs.up1
 refine q_call (caps := []) hk rfl rfl Tryz.func83 fo83 rfl rfl (dot_m s m zc yc za ya (zw (pt s (vI S)) m) (clz s S ch) t evs _ _ ((hs.hasR (hC)).hasR ((hx.pi 3 rfl)).cons) hT (by omega) (by omega)) ?_
 rintro _ w ⟨r2, rfl, ht3, hs⟩
 have hT := ht3
 have hs := hs.subR (R' := R) (by simp +contextual)
 refine ⟨_, rfl, fun a hk => ?_⟩
 refine q_v hk (w_ext rfl rfl) fun a hk => ?_
 refine q_v hk (w_ext rfl rfl) fun a hk => ?_
 have hs := hs.up1
 refine q_sto (o := 0) (cs := [.int .u64 ((dg 0 (mq (valZ s S m ch)) : Nat) : Int), .int .u64 ((dg 1 (mq (valZ s S m ch)) : Nat) : Int), .int .u64 ((dg 2 (mq (valZ s S m ch)) : Nat) : Int), .int .u64 ((dg 3 (mq (valZ s S m ch)) : Nat) : Int)]) (vs' := [.int .u64 ((dg 0 (mq (valZ s S m ch)) : Nat) : Int), .int .u64 ((dg 1 (mq (valZ s S m ch)) : Nat) : Int), .int .u64 ((dg 2 (mq (valZ s S m ch)) : Nat) : Int), .int .u64 ((dg 3 (mq (valZ s S m ch)) : Nat) : Int)]) hk hs rfl rfl rfl ty56 rfl rfl rfl rfl rfl rfl fun w hs => ?_
 refine q_v hk (w_as rfl) fun a hk => ?_
 refine c_end (x_t ?_)
 refine (wpIn_ret ?_)
 refine c_retG (vs := [vec (mq (valZ s S m ch)), .int .i64 0]) hk rfl ⟨⟨_, rfl, lv_A ty56 (.blk (n := 4) (hs.mi 0 rfl) rfl) rfl⟩, rfl, trivial⟩ rfl ?_
 have hs := hs.drop
 exact ⟨_, rfl, hT, hs⟩
theorem at_f (s : Bool) (S : Nat → Shr) (m xc bt bf bx bp : Nat) (xa : Option Addr) (x : Zp s) (t : Option Nat) (hm : m ≤ 255) (g : Good s S m) : FunC (89, [.pointer (some ⟨bt, 0, none⟩), .pointer (some ⟨bf, 0, none⟩), .pointer (some ⟨bx, 0, none⟩), .pointer (some ⟨bp, 0, none⟩)]) s S m t (atZ s S m x) (interpE (m : Int) ++ downE (m : Int) coefE) (rall [blk bt [tval t] 60, blk bf (fieldL s) 120, blk bx [.slice xa m xc] 34, lst 1 (.slice xa m xc) m (en ic (fun i => ((vI S i : Nat) : Int)) m), blk bp (vq (mq x)) 56]) := by
 refine ⟨_, Tryz.func89, fo89, fun F0 W M R w0 ya yc ch evs r hT hx hC hch he hs => ?_⟩
 have hm0 := g.m0
 refine c_enter (args := [.slice ya m yc, .pointer (some ⟨bt, 0, none⟩), .pointer (some ⟨bf, 0, none⟩), .pointer (some ⟨bx, 0, none⟩), .pointer (some ⟨bp, 0, none⟩)]) Tryz.func89 rfl rfl rfl fun a hk => ?_
 refine wS (wR ?_)
 refine q_alc (vs := [.int .u64 0, .int .u64 0, .int .u64 0, .int .u64 0]) hk hs zr56 rfl rfl rfl fun b1 w a hk hs => ?_
 refine q_v hk (w_as rfl) fun a hk => ?_
 refine c_end (x_t (wS (wR ?_)))
 refine q_v hk (w_ld1 rfl ty60 (.blk (n := 1) ((hx.pi 0 rfl).at_ hs) rfl)) fun a hk => ?_
 refine q_v hk (w_ldA rfl ty120 (.blk (n := 14) ((hx.pi 1 rfl).at_ hs) rfl) rfl) fun a hk => ?_
 refine q_v hk (w_ld1 rfl ty34 (.blk (n := 1) ((hx.pi 2 rfl).at_ hs) rfl)) fun a hk => ?_
 refine q_v hk (w_mv rfl) fun a hk => ?_
 have hs := hs.up1
 refine q_call (caps := []) hk rfl rfl Tryz.func90 fo90 rfl rfl (interp_m s m xc yc xa ya (vI S) (clz s S ch) t evs _ _ (hs.hasR (hC)) hT ((hx.pi 3 rfl)) g.m0 (by omega) g.v_le g.v_ne (by omega)) ?_
 rintro _ w ⟨b2, r3, rfl, ht4, hs⟩
 have hT := ht4
 have hs := hs.subR (R' := R) (by simp +contextual)
 refine ⟨_, rfl, fun a hk => ?_⟩
 refine q_v hk (w_mv rfl) fun a hk => ?_
 refine q_v hk (w_ext rfl rfl) fun a hk => ?_
 refine q_v hk (w_ext rfl rfl) fun a hk => ?_
 refine q_v hk (w_as rfl) fun a hk => ?_
 refine q_v hk (w_as rfl) fun a hk => ?_
 refine c_end (x_t (wS (wR ?_)))
 refine q_v hk (w_ld1 rfl ty60 (.blk (n := 1) ((hx.pi 0 rfl).at_ hs) rfl)) fun a hk => ?_
 refine q_v hk (w_ldA rfl ty120 (.blk (n := 14) ((hx.pi 1 rfl).at_ hs) rfl) rfl) fun a hk => ?_
 refine q_v hk (w_mv rfl) fun a hk => ?_
 refine q_v hk (w_ldv (z := mq x) rfl ty56 (.blk (n := 4) ((hx.pi 4 rfl).at_ hs) rfl)) fun a hk => ?_
 have hs := hs.up1
 have hs := hs.frz (r := lst 4 (.slice (some ⟨b2, 0, none⟩) m m) m (en vq (fun i => mq ((itp (pt s (vI S)) (clz s S ch) m m) i)) m)) (blk_lst (hs.mi 0 rfl) (en_len vq_len) (Nat.le_refl _)) (fun _ h => (Option.some.inj h.2).symm)
 refine q_call (caps := []) hk rfl rfl Tryz.func91 fo91 rfl rfl (peval_m s m m (some ⟨b2, 0, none⟩) (itp (pt s (vI S)) (clz s S ch) m m) x t (evs ++ interpE (m : Int)) _ _ hs hT (HasR.nth 0 rfl) g.m0 (by omega) (by have := interp_len2 (n := m) (by omega); simp only [List.length_append]; omega)) ?_
 rintro _ w ⟨r5, rfl, ht6, hs⟩
 have hT := ht6
 refine ⟨_, rfl, fun a hk => ?_⟩
 refine q_v hk (w_mv rfl) fun a hk => ?_
 have hs := hs.up1
 refine q_sto (o := 0) (cs := [.int .u64 ((dg 0 (mq (atZ s S m x ch)) : Nat) : Int), .int .u64 ((dg 1 (mq (atZ s S m x ch)) : Nat) : Int), .int .u64 ((dg 2 (mq (atZ s S m x ch)) : Nat) : Int), .int .u64 ((dg 3 (mq (atZ s S m x ch)) : Nat) : Int)]) (vs' := [.int .u64 ((dg 0 (mq (atZ s S m x ch)) : Nat) : Int), .int .u64 ((dg 1 (mq (atZ s S m x ch)) : Nat) : Int), .int .u64 ((dg 2 (mq (atZ s S m x ch)) : Nat) : Int), .int .u64 ((dg 3 (mq (atZ s S m x ch)) : Nat) : Int)]) hk hs rfl rfl rfl ty56 rfl rfl rfl rfl rfl rfl fun w hs => ?_
 refine q_v hk (w_as rfl) fun a hk => ?_
 refine c_end (x_t ?_)
 refine (wpIn_ret ?_)
 refine c_retG (vs := [vec (mq (atZ s S m x ch)), .int .i64 0]) hk rfl ⟨⟨_, rfl, lv_A ty56 (.blk (n := 4) (hs.mi 0 rfl) rfl) rfl⟩, rfl, trivial⟩ rfl ?_
 have hs := hs.drop
 have hs := hs.toR (R' := R) (fun r hr => .of (by simp [hr]))
 exact ⟨_, rfl, by rw [← List.append_assoc]; exact hT, hs⟩
end Go.Proofs.YtdnkkbmpefhbjaaGreatDoor
namespace Go.Proofs.YtdnkkbmpefhbjaaGreatDoor
set_option linter.all false
open Go Go.RowKit Alg
def valsE (th n : Nat) : List Ev := weightsE (th : Int) ++ upE 0 (th : Int) coefE ++ eachE (n : Int) (upE 0 (th : Int) coefE)
def atE (th n : Nat) : List Ev := eachE (n : Int) (interpE (th : Int) ++ downE (th : Int) coefE)
theorem values_m {F0 : Nat → Prop} {W : World} {M R : List Res} (s : Bool) (m lc : Nat) (la : Option Addr) (S : Nat → Shr) (t : Option Nat) (evs : List Ev) (r : Res) (w0 : World) (hs : Sat F0 W (r :: M) R w0) (hS : HasR (shareR la m lc S) R) (hG : HasR laidR R) (HO : ShOk S m) (g : Good s S m) (hz : csErr S m = 0) (hm : m ≤ 255) (hn9 : (S 0).n ≤ 7) (hT : TapeIs t evs r) (he : evs.length ≤ 10000) : Calls Tryz.prog 41 [tval t, .slice la m lc].toArray w0 fun e w => ∃ r a c, e = .returned (.tuple #[.slice a (S 0).n c, .int .i64 0]) ∧ TapeIs t (evs ++ valsE (thN S) (S 0).n) r ∧ Sat F0 W (r :: row 56 4 (.slice a (S 0).n c) (S 0).n (en vq (fun i => mq (valZ s S (thN S) i)) (S 0).n) :: M) R w := by
 have hm0 := g.m0
 have hth := g.th_le
 have hS2 := share_take hS hth.2
 have g2 := g.take
 refine c_enter (args := [tval t, .slice la m lc]) Tryz.func41 rfl rfl rfl fun a hk => ?_
 refine wS (wR ?_)
 refine q_box (vs := [tval t]) hk hs rfl rfl rfl rfl fun b1 w a hk hs => ?_
 refine q_v hk (w_as rfl) fun a hk => ?_
 refine q_v hk (w_as rfl) fun a hk => ?_
 refine c_end (x_t (wS (wR ?_)))
 refine q_v hk (w_mv rfl) fun a hk => ?_
 refine q_call (caps := []) hk rfl rfl Tryz.func78 fo78 rfl rfl (used_m s m lc la S _ hs (hS) (hG) HO g hz hm) ?_
 rintro _ w ⟨rfl, hs⟩
 refine ⟨_, rfl, fun a hk => ?_⟩
 refine q_v hk (w_mv rfl) fun a hk => ?_
 refine q_v hk (w_ext rfl rfl) fun a hk => ?_
 refine q_v hk (w_ext rfl rfl) fun a hk => ?_
 refine q_v hk (w_ext rfl rfl) fun a hk => ?_
 refine q_alc (vs := [.int .i64 0, .int .u64 0, .int .u64 0, .int .u64 0, .int .u64 0, .int .u64 0, .int .u64 0, .int .u64 0, .int .u64 0, .int .u64 0, .int .u64 0, .int .u64 0, .int .u64 0, .int .u64 0]) hk hs zr120 rfl rfl rfl fun b2 w a hk hs => ?_
 refine q_sto (o := 0) (cs := fieldL s) (vs' := fieldL s) hk hs rfl rfl rfl ty120 rfl rfl rfl rfl rfl rfl fun w hs => ?_
 refine q_v hk (w_as rfl) fun a hk => ?_
 refine q_v hk (w_as rfl) fun a hk => ?_
 refine c_end (x_t (wS (wS (wR ?_))))
 refine q_v hk (w_mv rfl) fun a hk => ?_
 refine q_v hk (w_ne rfl rfl (decide_eq_false (by decide))) fun a hk => ?_
 refine c_end (x_t ?_)
 refine c_F hk rfl ?_
 refine (wpIn_skip (x_t ?_))
 refine wS ?_
 have hL := okL.cons (hs.mi 1 rfl) (okL.cons (hs.mi 0 rfl) okL.nil)
 refine d_begin _ 11 (by kernel_rfl) rfl hs hL fun w hs hL => ?_
 refine d_join (n2 := 2) 511 (fun a w => ∃ (b1_8 : Nat) (b1_4 : Nat) (a1_3 : Option Addr) (c1_3b : Nat) (r1_4b : Res), TapeIs t (evs ++ (weightsE ((thN S) : Int) ++ upE 0 ((thN S) : Int) coefE)) r1_4b ∧ Kn [] 35 [(8, .pointer (some ⟨b1_8, 0, none⟩)), (25, .int .i64 0), (24, .slice (some ⟨b1_4, 0, none⟩) (thN S) (thN S)), (18, .tuple #[.slice (some ⟨b1_4, 0, none⟩) (thN S) (thN S), .int .i64 0]), (23, .tuple #[.slice (some ⟨b1_4, 0, none⟩) (thN S) (thN S), .int .i64 0]), (22, .slice a1_3 (thN S) c1_3b), (21, .slice la (thN S) lc), (20, fieldV s), (19, tval t), (16, .bool false), (15, .int .i64 0), (7, .int .i64 0), (1, .slice la (thN S) lc), (6, .pointer (some ⟨b2, 0, none⟩)), (14, .int .i64 0), (13, .slice la (thN S) lc), (12, fieldV s), (9, .tuple #[fieldV s, .slice la (thN S) lc, .int .i64 0]), (11, .tuple #[fieldV s, .slice la (thN S) lc, .int .i64 0]), (10, .slice la m lc), (5, .int .i64 0), (4, .slice none 0 0), (2, .pointer (some ⟨b1, 0, none⟩)), (0, tval t)] a ∧ Sat F0 W ((blk b1_8 [.slice none 0 0] 51) :: r1_4b :: (blk b1_4 (en vq (fun i => mq (zw (pt s (vI S)) (thN S) i)) (thN S)) 56) :: (blk b2 (fieldL s) 120) :: (blk b1 [tval t] 60) :: M) ((lst 1 (.slice a1_3 (thN S) c1_3b) (thN S) (en ic (fun i => ((vI S i : Nat) : Int)) (thN S))) :: R) w ∧ okL [blk b1 [tval t] 60, blk b2 (fieldL s) 120] w) ?_ ?_
 ·
  intro hJ511
  refine d_join (n2 := 6) 271 (fun a w => ∃ (b1_8 : Nat) (a1_3 : Option Addr) (c1_3b : Nat), Kn [] 35 [(8, .pointer (some ⟨b1_8, 0, none⟩)), (22, .slice a1_3 (thN S) c1_3b), (21, .slice la (thN S) lc), (20, fieldV s), (19, tval t), (16, .bool false), (15, .int .i64 0), (7, .int .i64 0), (1, .slice la (thN S) lc), (6, .pointer (some ⟨b2, 0, none⟩)), (14, .int .i64 0), (13, .slice la (thN S) lc), (12, fieldV s), (9, .tuple #[fieldV s, .slice la (thN S) lc, .int .i64 0]), (11, .tuple #[fieldV s, .slice la (thN S) lc, .int .i64 0]), (10, .slice la m lc), (5, .int .i64 0), (4, .slice none 0 0), (2, .pointer (some ⟨b1, 0, none⟩)), (0, tval t)] a ∧ Sat F0 W ((blk b1_8 [.slice none 0 0] 51) :: (row 3 1 (.slice a1_3 (thN S) c1_3b) (thN S) (en ic (fun i => (S i).I) (thN S))) :: (blk b2 (fieldL s) 120) :: (blk b1 [tval t] 60) :: r :: M) R w ∧ okL [blk b1 [tval t] 60, blk b2 (fieldL s) 120] w) ?_ ?_
  ·
   intro hJ271
   refine d_w 0 1 hk hL rfl (fun w hL => w_ld1 rfl ty60 (.blk (n := 1) (hL.at 0 rfl) rfl)) fun a hk => ?_
   refine d_w 1 3 hk hL rfl (fun w hL => w_ldA rfl ty120 (.blk (n := 14) (hL.at 1 rfl) rfl) rfl) fun a hk => ?_
   refine d_w 2 7 hk hL rfl (fun w hL => w_mv rfl) fun a hk => ?_
   refine d_2 3 8 15 263 rfl rfl (by kernel_rfl) (fun K hK => ?_) (fun K hK => ?_)
   ·
    refine q_call (caps := []) hk rfl rfl Tryz.func80 fo80 rfl rfl (indices_c (thN S) lc la S _ ((hS2).at_ hs) (by omega)) ?_
    rintro _ w ⟨a1_3, c1_3b, rfl, hS⟩
    have hs := hs.call1 hS
    clear hS
    refine ⟨_, rfl, fun a hk => ?_⟩
    have hL := okL.cons (hs.mi 2 rfl) (okL.cons (hs.mi 1 rfl) okL.nil)
    refine c_end (x_t (hK _ _ hL ?_))
    clear hK K
    refine d_2 4 8 31 271 rfl rfl (by kernel_rfl) (fun K hK => ?_) (fun K hK => ?_)
    ·
     have hs := hs.rw0 (congrArg (fun q => row 3 1 (.slice a1_3 (thN S) c1_3b) (thN S) q) g2.xs_eq)
     have hs := hs.frz (r := lst 1 (.slice a1_3 (thN S) c1_3b) (thN S) (en ic (fun i => ((vI S i : Nat) : Int)) (thN S))) (row_lst (hs.mi 0 rfl)) (fun _ h => h.2)
     have hs := hs.up2
     refine q_call (caps := []) hk rfl rfl Tryz.func79 fo79 rfl rfl (zero_m s (thN S) c1_3b a1_3 (vI S) t evs _ _ hs hT (HasR.nth 0 rfl) g2.m0 (by omega) g2.v_le g2.v_ne (by omega)) ?_
     rintro _ w ⟨b1_4, r1_4b, rfl, ht1_4c, hs⟩
     rw [List.append_assoc] at ht1_4c
     have hT := ht1_4c
     refine ⟨_, rfl, fun a hk => ?_⟩
     have hL := okL.cons (hs.mi 3 rfl) (okL.cons (hs.mi 2 rfl) okL.nil)
     refine c_end (x_t (hK _ _ hL ?_))
     clear hK K
     refine d_w 5 63 hk hL rfl (fun w hL => w_mv rfl) fun a hk => ?_
     refine d_w 6 127 hk hL rfl (fun w hL => w_ext rfl rfl) fun a hk => ?_
     refine d_w 7 255 hk hL rfl (fun w hL => w_ext rfl rfl) fun a hk => ?_
     refine d_1 8 511 rfl (by kernel_rfl) fun K hK => ?_
     refine q_alc (vs := [.slice none 0 0]) hk hs zr51 rfl rfl rfl fun b1_8 w a hk hs => ?_
     have hL := okL.cons (hs.mi 4 rfl) (okL.cons (hs.mi 3 rfl) okL.nil)
     refine c_end (x_t (hK _ _ hL ?_))
     clear hK K
     have hL := okL.cons (hs.mi 4 rfl) (okL.cons (hs.mi 3 rfl) okL.nil)
     exact hJ511 _ _ ⟨_, _, _, _, _, hT, hk.k rfl (hk.k rfl (hk.k rfl (hk.k rfl (hk.k rfl (hk.k rfl (hk.k rfl (hk.k rfl (hk.k rfl (hk.k rfl (hk.k rfl (hk.k rfl (hk.k rfl (hk.k rfl (hk.k rfl (hk.k rfl (hk.k rfl (hk.k rfl (hk.k rfl (hk.k rfl (hk.k rfl (hk.k rfl (hk.k rfl (hk.k rfl hk.nil))))))))))))))))))))))), hs, hL⟩
    ·
     refine q_alc (vs := [.slice none 0 0]) hk hs zr51 rfl rfl rfl fun b1_8 w a hk hs => ?_
     have hL := okL.cons (hs.mi 3 rfl) (okL.cons (hs.mi 2 rfl) okL.nil)
     refine c_end (x_t (hK _ _ hL ?_))
     clear hK K
     have hL := okL.cons (hs.mi 3 rfl) (okL.cons (hs.mi 2 rfl) okL.nil)
     exact hJ271 _ _ ⟨_, _, _, hk.k rfl (hk.k rfl (hk.k rfl (hk.k rfl (hk.k rfl (hk.k rfl (hk.k rfl (hk.k rfl (hk.k rfl (hk.k rfl (hk.k rfl (hk.k rfl (hk.k rfl (hk.k rfl (hk.k rfl (hk.k rfl (hk.k rfl (hk.k rfl (hk.k rfl (hk.k rfl hk.nil))))))))))))))))))), hs, hL⟩
   ·
    refine q_alc (vs := [.slice none 0 0]) hk hs zr51 rfl rfl rfl fun b1_8 w a hk hs => ?_
    have hL := okL.cons (hs.mi 2 rfl) (okL.cons (hs.mi 1 rfl) okL.nil)
    refine c_end (x_t (hK _ _ hL ?_))
    clear hK K
    refine d_1 3 271 rfl (by kernel_rfl) fun K hK => ?_
    refine q_call (caps := []) hk rfl rfl Tryz.func80 fo80 rfl rfl (indices_c (thN S) lc la S _ ((hS2).at_ hs) (by omega)) ?_
    rintro _ w ⟨a1_3, c1_3b, rfl, hS⟩
    have hs := hs.call1 hS
    clear hS
    refine ⟨_, rfl, fun a hk => ?_⟩
    have hL := okL.cons (hs.mi 3 rfl) (okL.cons (hs.mi 2 rfl) okL.nil)
    refine c_end (x_t (hK _ _ hL ?_))
    clear hK K
    have hs := hs.up4
    have hs := hs.up4
    have hs := hs.up4
    have hs := hs.up3
    have hs := hs.up4
    have hL := okL.cons (hs.mi 3 rfl) (okL.cons (hs.mi 2 rfl) okL.nil)
    exact hJ271 _ _ ⟨_, _, _, hk.k rfl (hk.k rfl (hk.k rfl (hk.k rfl (hk.k rfl (hk.k rfl (hk.k rfl (hk.k rfl (hk.k rfl (hk.k rfl (hk.k rfl (hk.k rfl (hk.k rfl (hk.k rfl (hk.k rfl (hk.k rfl (hk.k rfl (hk.k rfl (hk.k rfl (hk.k rfl hk.nil))))))))))))))))))), hs, hL⟩
  ·
   rintro a w ⟨b1_8, a1_3, c1_3b, hk, hs, hL⟩
   refine d_1 4 287 rfl (by kernel_rfl) fun K hK => ?_
   have hs := hs.up1
   have hs := hs.rw0 (congrArg (fun q => row 3 1 (.slice a1_3 (thN S) c1_3b) (thN S) q) g2.xs_eq)
   have hs := hs.frz (r := lst 1 (.slice a1_3 (thN S) c1_3b) (thN S) (en ic (fun i => ((vI S i : Nat) : Int)) (thN S))) (row_lst (hs.mi 0 rfl)) (fun _ h => h.2)
   have hs := hs.up3
   refine q_call (caps := []) hk rfl rfl Tryz.func79 fo79 rfl rfl (zero_m s (thN S) c1_3b a1_3 (vI S) t evs _ _ hs hT (HasR.nth 0 rfl) g2.m0 (by omega) g2.v_le g2.v_ne (by omega)) ?_
   rintro _ w ⟨b1_4, r1_4b, rfl, ht1_4c, hs⟩
   rw [List.append_assoc] at ht1_4c
   have hT := ht1_4c
   refine ⟨_, rfl, fun a hk => ?_⟩
   have hL := okL.cons (hs.mi 4 rfl) (okL.cons (hs.mi 3 rfl) okL.nil)
   refine c_end (x_t (hK _ _ hL ?_))
   clear hK K
   refine d_w 5 319 hk hL rfl (fun w hL => w_mv rfl) fun a hk => ?_
   refine d_w 6 383 hk hL rfl (fun w hL => w_ext rfl rfl) fun a hk => ?_
   refine d_w 7 511 hk hL rfl (fun w hL => w_ext rfl rfl) fun a hk => ?_
   have hs := hs.up4
   have hs := hs.up4
   have hs := hs.up3
   have hs := hs.up3
   have hs := hs.up4
   have hL := okL.cons (hs.mi 4 rfl) (okL.cons (hs.mi 3 rfl) okL.nil)
   exact hJ511 _ _ ⟨_, _, _, _, _, hT, hk.k rfl (hk.k rfl (hk.k rfl (hk.k rfl (hk.k rfl (hk.k rfl (hk.k rfl (hk.k rfl (hk.k rfl (hk.k rfl (hk.k rfl (hk.k rfl (hk.k rfl (hk.k rfl (hk.k rfl (hk.k rfl (hk.k rfl (hk.k rfl (hk.k rfl (hk.k rfl (hk.k rfl (hk.k rfl (hk.k rfl (hk.k rfl hk.nil))))))))))))))))))))))), hs, hL⟩
 ·
  rintro a w ⟨b1_8, b1_4, a1_3, c1_3b, r1_4b, hT, hk, hs, hL⟩
  refine d_1 9 1023 rfl (by kernel_rfl) fun K hK => ?_
  refine q_sto (o := 0) (cs := [.slice (some ⟨b1_4, 0, none⟩) (thN S) (thN S)]) (vs' := [.slice (some ⟨b1_4, 0, none⟩) (thN S) (thN S)]) hk hs rfl rfl rfl ty51 rfl rfl rfl rfl rfl rfl fun w hs => ?_
  have hL := okL.cons (hs.mi 4 rfl) (okL.cons (hs.mi 3 rfl) okL.nil)
  refine c_end (x_t (hK _ _ hL ?_))
  clear hK K
  refine d_w 10 2047 hk hL rfl (fun w hL => w_as rfl) fun a hk => ?_
  refine d_end (by kernel_rfl) ?_
  refine (x_t ?_)
  refine wS (wS (wR ?_))
  refine q_v hk (w_mv rfl) fun a hk => ?_
  refine q_v hk (w_ne rfl rfl (decide_eq_false (by decide))) fun a hk => ?_
  refine c_end (x_t ?_)
  refine c_F hk rfl ?_
  refine (wpIn_skip (x_t ?_))
  refine wS (wR ?_)
  refine q_v hk (w_ld1 rfl ty60 (.blk (n := 1) (hs.mi 4 rfl) rfl)) fun a hk => ?_
  refine q_v hk (w_mv rfl) fun a hk => ?_
  refine q_v hk (w_mkf (frees := [.tmp 2, .tmp 6, .tmp 8]) rfl) fun a hk => ?_
  have hs := hs.up2
  have hs := hs.frz (r := lst 4 (.slice (some ⟨b1_4, 0, none⟩) (thN S) (thN S)) (thN S) (en vq (fun i => mq (zw (pt s (vI S)) (thN S) i)) (thN S))) (blk_lst (hs.mi 0 rfl) (en_len vq_len) (Nat.le_refl _)) (fun _ h => (Option.some.inj h.2).symm)
  have hs := hs.up3
  have hs := hs.frz (r := blk b1 [tval t] 60) (hs.okM _ (.head _)) (fun _ h => h)
  have hs := hs.up2
  have hs := hs.frz (r := blk b2 (fieldL s) 120) (hs.okM _ (.head _)) (fun _ h => h)
  have hs := hs.frz (r := blk b1_8 [.slice (some ⟨b1_4, 0, none⟩) (thN S) (thN S)] 51) (hs.okM _ (.head _)) (fun _ h => h)
  refine q_call (caps := []) hk rfl rfl Tryz.func81 fo81 rfl rfl (each_cm s (thN S) lc la S (82, [.pointer (some ⟨b1, 0, none⟩), .pointer (some ⟨b2, 0, none⟩), .pointer (some ⟨b1_8, 0, none⟩)]) (valZ s S (thN S)) (upE 0 ((thN S) : Int) coefE) (rall [blk b1 [tval t] 60, blk b2 (fieldL s) 120, blk b1_8 [.slice (some ⟨b1_4, 0, none⟩) (thN S) (thN S)] 51, lst 4 (.slice (some ⟨b1_4, 0, none⟩) (thN S) (thN S)) (thN S) (en vq (fun i => mq (zw (pt s (vI S)) (thN S) i)) (thN S))]) t (evs ++ (weightsE ((thN S) : Int) ++ upE 0 ((thN S) : Int) coefE)) _ _ hs (hS2.cons.cons.cons.cons.cons) g2 (by omega) hn9 (vals_f s S (thN S) (thN S) b1 b2 b1_8 (some ⟨b1_4, 0, none⟩) t (by omega)) (.rall fun q hq => by simp only [List.mem_cons, List.not_mem_nil, or_false] at hq; rcases hq with rfl | rfl | rfl | rfl <;> exact HasR.of (by simp)) (by have h2 := coef_len3 (m := (thN S)); omega) hT (by have h1 := weights_len (n := ((thN S) : Int)) (by omega); have h2 := coef_len3 (m := (thN S)); simp only [List.length_append]; omega)) ?_
  rintro _ w ⟨r3, a4, c5, rfl, hT, hs⟩
  refine ⟨_, rfl, fun a hk => ?_⟩
  refine q_v hk (w_ext rfl rfl) fun a hk => ?_
  refine q_v hk (w_ext rfl rfl) fun a hk => ?_
  refine q_v hk (w_as rfl) fun a hk => ?_
  refine q_v hk (w_as rfl) fun a hk => ?_
  refine c_end (x_t ?_)
  refine (wpIn_ret ?_)
  refine c_ret2 hk rfl rfl rfl ?_
  have hs := hs.toR (R' := R) (fun r hr => .of (by simp [hr]))
  exact ⟨_, _, _, rfl, by unfold valsE; rw [← List.append_assoc]; exact hT, hs⟩
end Go.Proofs.YtdnkkbmpefhbjaaGreatDoor
namespace Go.Proofs.YtdnkkbmpefhbjaaGreatDoor
set_option linter.all false
open Go Go.RowKit Alg
theorem at_m {F0 : Nat → Prop} {W : World} {M R : List Res} (s : Bool) (m lc : Nat) (la : Option Addr) (S : Nat → Shr) (t : Option Nat) (evs : List Ev) (r : Res) (ix : Nat) (w0 : World) (hs : Sat F0 W (r :: M) R w0) (hS : HasR (shareR la m lc S) R) (hG : HasR laidR R) (HO : ShOk S m) (g : Good s S m) (hz : csErr S m = 0) (hm : m ≤ 255) (hn9 : (S 0).n ≤ 7) (hT : TapeIs t evs r) (he : evs.length ≤ 10000) (hi1 : 1 ≤ ix) (hi2 : ix ≤ 255) : Calls Tryz.prog 47 [tval t, .slice la m lc, .int .i64 ((ix : Nat) : Int)].toArray w0 fun e w => ∃ r a c, e = .returned (.tuple #[.agg #[.int .i64 (S 0).F, .int .i64 (S 0).T, .int .i64 ((ix : Nat) : Int), .int .i64 (S 0).L, .slice a (S 0).n c], .int .i64 0]) ∧ TapeIs t (evs ++ atE (thN S) (S 0).n) r ∧ Sat F0 W (r :: row 56 4 (.slice a (S 0).n c) (S 0).n (en vq (fun i => mq ((atZ s S (thN S) (zn s ix)) i)) (S 0).n) :: M) R w := by
 have hm0 := g.m0
 have hth := g.th_le
 have hS2 := share_take hS hth.2
 have g2 := g.take
 refine c_enter (args := [tval t, .slice la m lc, .int .i64 ((ix : Nat) : Int)]) Tryz.func47 rfl rfl rfl fun a hk => ?_
 refine wS (wR ?_)
 refine q_box (vs := [tval t]) hk hs rfl rfl rfl rfl fun b1 w a hk hs => ?_
 refine q_alc (vs := [.int .i64 0, .int .i64 0, .int .i64 0, .int .i64 0, .slice none 0 0]) hk hs zr53 rfl rfl rfl fun b2 w a hk hs => ?_
 refine q_v hk (w_as rfl) fun a hk => ?_
 refine c_end (x_t (wS (wR ?_)))
 refine q_v hk (w_mv rfl) fun a hk => ?_
 refine q_call (caps := []) hk rfl rfl Tryz.func78 fo78 rfl rfl (used_m s m lc la S _ hs (hS) (hG) HO g hz hm) ?_
 rintro _ w ⟨rfl, hs⟩
 refine ⟨_, rfl, fun a hk => ?_⟩
 refine q_v hk (w_mv rfl) fun a hk => ?_
 refine q_v hk (w_ext rfl rfl) fun a hk => ?_
 refine q_v hk (w_ext rfl rfl) fun a hk => ?_
 refine q_v hk (w_ext rfl rfl) fun a hk => ?_
 refine q_alc (vs := [.int .i64 0, .int .u64 0, .int .u64 0, .int .u64 0, .int .u64 0, .int .u64 0, .int .u64 0, .int .u64 0, .int .u64 0, .int .u64 0, .int .u64 0, .int .u64 0, .int .u64 0, .int .u64 0]) hk hs zr120 rfl rfl rfl fun b3 w a hk hs => ?_
 refine q_sto (o := 0) (cs := fieldL s) (vs' := fieldL s) hk hs rfl rfl rfl ty120 rfl rfl rfl rfl rfl rfl fun w hs => ?_
 refine q_v hk (w_as rfl) fun a hk => ?_
 refine q_v hk (w_as rfl) fun a hk => ?_
 refine c_end (x_t (wS ?_))
 refine wpIn_block ?_
 refine wS (wR ?_)
 refine q_v hk (w_mv rfl) fun a hk => ?_
 refine q_v hk (w_ne rfl rfl (decide_eq_false (by decide))) fun a hk => ?_
 refine q_v hk (w_as rfl) fun a hk => ?_
 refine c_end (x_t ?_)
 refine c_F hk rfl ?_
 refine wS (wR ?_)
 refine q_v hk (w_mv rfl) fun a hk => ?_
 refine q_v hk (w_lt rfl rfl (decide_eq_false (by omega))) fun a hk => ?_
 refine q_v hk (w_mv rfl) fun a hk => ?_
 refine q_v hk (w_mv rfl) fun a hk => ?_
 refine q_v hk (w_gt rfl rfl (decide_eq_false (by omega))) fun a hk => ?_
 refine q_v hk (w_pickF rfl rfl) fun a hk => ?_
 refine q_v hk (w_as rfl) fun a hk => ?_
 refine c_end (x_t ?_)
 refine c_F hk rfl ?_
 refine (wpIn_skip (x_b (x_t ?_)))
 refine wS (wR ?_)
 refine q_v hk (w_mv rfl) fun a hk => ?_
 refine q_call (caps := []) hk rfl rfl Tryz.func80 fo80 rfl rfl (indices_c (thN S) lc la S _ ((hS2).at_ hs) (by omega)) ?_
 rintro _ w ⟨a4, c5, rfl, hS⟩
 have hs := hs.call1 hS
 clear hS
 refine ⟨_, rfl, fun a hk => ?_⟩
 refine q_alc (vs := [.slice none 0 0]) hk hs zr34 rfl rfl rfl fun b6 w a hk hs => ?_
 refine q_sto (o := 0) (cs := [.slice a4 (thN S) c5]) (vs' := [.slice a4 (thN S) c5]) hk hs rfl rfl rfl ty34 rfl rfl rfl rfl rfl rfl fun w hs => ?_
 refine c_end (x_t (wS (wR ?_)))
 refine q_v hk (w_ldA rfl ty120 (.blk (n := 14) (hs.mi 2 rfl) rfl) rfl) fun a hk => ?_
 refine q_v hk (w_mv rfl) fun a hk => ?_
 refine q_v hk (w_conv rfl Tryz.underlying3 Tryz.underlying46 (wru64 (by omega) (by omega))) fun a hk => ?_
 refine q_v hk (w_bldv1 (k := ix) rfl (by omega) (by unfold Go.Proofs.YtdnkkbmpefhbjaaGreatDoor.W; omega) Tryz.underlying47 ty46 zr47) fun a hk => ?_
 refine q_call (caps := []) hk rfl rfl Tryz.func88 fo88 rfl rfl (zto_c (s := s) _ ix (lt255 hi2)) ?_
 rintro _ w ⟨rfl, hb⟩
 have hs := hs.below hb
 refine ⟨_, rfl, fun a hk => ?_⟩
 refine q_alc (vs := [.int .u64 0, .int .u64 0, .int .u64 0, .int .u64 0]) hk hs zr56 rfl rfl rfl fun b7 w a hk hs => ?_
 refine q_sto (o := 0) (cs := [.int .u64 ((dg 0 (mq (zn s ix)) : Nat) : Int), .int .u64 ((dg 1 (mq (zn s ix)) : Nat) : Int), .int .u64 ((dg 2 (mq (zn s ix)) : Nat) : Int), .int .u64 ((dg 3 (mq (zn s ix)) : Nat) : Int)]) (vs' := [.int .u64 ((dg 0 (mq (zn s ix)) : Nat) : Int), .int .u64 ((dg 1 (mq (zn s ix)) : Nat) : Int), .int .u64 ((dg 2 (mq (zn s ix)) : Nat) : Int), .int .u64 ((dg 3 (mq (zn s ix)) : Nat) : Int)]) hk hs rfl rfl rfl ty56 rfl rfl rfl rfl rfl rfl fun w hs => ?_
 refine c_end (x_t (wS (wR ?_)))
 refine q_v hk (w_ld1 rfl ty60 (.blk (n := 1) (hs.mi 5 rfl) rfl)) fun a hk => ?_
 refine q_v hk (w_mv rfl) fun a hk => ?_
 refine q_v hk (w_mkf (frees := [.tmp 3, .tmp 8, .tmp 10, .tmp 11]) rfl) fun a hk => ?_
 have hs := hs.up2
 have hs := hs.rw0 (congrArg (fun q => row 3 1 (.slice a4 (thN S) c5) (thN S) q) g2.xs_eq)
 have hs := hs.frz (r := lst 1 (.slice a4 (thN S) c5) (thN S) (en ic (fun i => ((vI S i : Nat) : Int)) (thN S))) (row_lst (hs.mi 0 rfl)) (fun _ h => h.2)
 have hs := hs.up4
 have hs := hs.frz (r := blk b1 [tval t] 60) (hs.okM _ (.head _)) (fun _ h => h)
 have hs := hs.up2
 have hs := hs.frz (r := blk b3 (fieldL s) 120) (hs.okM _ (.head _)) (fun _ h => h)
 have hs := hs.up1
 have hs := hs.frz (r := blk b6 [.slice a4 (thN S) c5] 34) (hs.okM _ (.head _)) (fun _ h => h)
 have hs := hs.frz (r := blk b7 [.int .u64 ((dg 0 (mq (zn s ix)) : Nat) : Int), .int .u64 ((dg 1 (mq (zn s ix)) : Nat) : Int), .int .u64 ((dg 2 (mq (zn s ix)) : Nat) : Int), .int .u64 ((dg 3 (mq (zn s ix)) : Nat) : Int)] 56) (hs.okM _ (.head _)) (fun _ h => h)
 have hs := hs.up1
 refine q_call (caps := []) hk rfl rfl Tryz.func81 fo81 rfl rfl (each_cm s (thN S) lc la S (89, [.pointer (some ⟨b1, 0, none⟩), .pointer (some ⟨b3, 0, none⟩), .pointer (some ⟨b6, 0, none⟩), .pointer (some ⟨b7, 0, none⟩)]) (atZ s S (thN S) (zn s ix)) (interpE ((thN S) : Int) ++ downE ((thN S) : Int) coefE) (rall [blk b1 [tval t] 60, blk b3 (fieldL s) 120, blk b6 [.slice a4 (thN S) c5] 34, lst 1 (.slice a4 (thN S) c5) (thN S) (en ic (fun i => ((vI S i : Nat) : Int)) (thN S)), blk b7 (vq (mq (zn s ix))) 56]) t evs _ _ hs (hS2.cons.cons.cons.cons.cons) g2 (by omega) hn9 (at_f s S (thN S) c5 b1 b3 b6 b7 a4 (zn s ix) t (by omega) g2) (.rall fun q hq => by simp only [List.mem_cons, List.not_mem_nil, or_false] at hq; rcases hq with rfl | rfl | rfl | rfl | rfl; exact HasR.nth 3 rfl; exact HasR.nth 2 rfl; exact HasR.nth 1 rfl; exact HasR.nth 4 rfl; exact HasR.nth 0 rfl) (by have h1 := interp_len2 (n := (thN S)) (by omega); have h2 := coefD_len (thN S); simp only [List.length_append]; omega) hT (by omega)) ?_
 rintro _ w ⟨r8, a9, c10, rfl, hT, hs⟩
 refine ⟨_, rfl, fun a hk => ?_⟩
 refine q_v hk (w_mv rfl) fun a hk => ?_
 refine q_v hk (w_ext rfl rfl) fun a hk => ?_
 refine q_v hk (w_ext rfl rfl) fun a hk => ?_
 refine q_v hk (w_as rfl) fun a hk => ?_
 refine q_v hk (w_as rfl) fun a hk => ?_
 refine c_end (x_t (wS (wS (wR ?_))))
 refine q_v hk (w_mv rfl) fun a hk => ?_
 refine q_v hk (w_ne rfl rfl (decide_eq_false (by decide))) fun a hk => ?_
 refine c_end (x_t ?_)
 refine c_F hk rfl ?_
 refine (wpIn_skip (x_t ?_))
 refine wS (wR ?_)
 refine q_v hk (w_mv rfl) fun a hk => ?_
 refine q_v hk (w_iaL (k := 0) rfl rfl Tryz.underlying22 ty53 ((share_lst hS2.cons.cons.cons.cons.cons).at_ hs) (by omega) (by omega)) fun a hk => ?_
 refine q_v hk (w_ldA rfl ty53 (lstq (k := 0) ((share_lst hS2.cons.cons.cons.cons.cons).at_ hs) (by omega) (en_chunk shc_len (by omega))) rfl) fun a hk => ?_
 refine q_alc (vs := [.int .i64 0, .int .i64 0, .int .i64 0, .int .i64 0, .slice none 0 0]) hk hs zr53 rfl rfl rfl fun b11 w a hk hs => ?_
 refine q_sto (o := 0) (cs := [.int .i64 ((S 0).F), .int .i64 ((S 0).T), .int .i64 ((S 0).I), .int .i64 ((S 0).L), .slice ((S 0).a) ((S 0).n) ((S 0).c)]) (vs' := [.int .i64 ((S 0).F), .int .i64 ((S 0).T), .int .i64 ((S 0).I), .int .i64 ((S 0).L), .slice ((S 0).a) ((S 0).n) ((S 0).c)]) hk hs rfl rfl rfl ty53 rfl rfl rfl rfl rfl rfl fun w hs => ?_
 refine c_end (x_t (wS (wR ?_)))
 refine q_v hk (w_mv rfl) fun a hk => ?_
 refine q_v hk (w_mv rfl) fun a hk => ?_
 refine q_v hk (w_fa rfl fq53_2 ty3) fun a hk => ?_
 refine q_sto (o := 2) (cs := [.int .i64 ((ix : Nat) : Int)]) (vs' := [.int .i64 ((S 0).F), .int .i64 ((S 0).T), .int .i64 ((ix : Nat) : Int), .int .i64 ((S 0).L), .slice ((S 0).a) ((S 0).n) ((S 0).c)]) hk hs rfl rfl rfl ty3 rfl rfl rfl rfl rfl rfl fun w hs => ?_
 refine q_v hk (w_fa rfl fq53_4 ty51) fun a hk => ?_
 refine q_sto (o := 4) (cs := [.slice a9 ((S 0).n) c10]) (vs' := [.int .i64 ((S 0).F), .int .i64 ((S 0).T), .int .i64 ((ix : Nat) : Int), .int .i64 ((S 0).L), .slice a9 ((S 0).n) c10]) hk hs rfl rfl rfl ty51 rfl rfl rfl rfl rfl rfl fun w hs => ?_
 refine c_end (x_t (wS (wR ?_)))
 refine q_v hk (w_ldA rfl ty53 (.blk (n := 5) (hs.mi 0 rfl) rfl) rfl) fun a hk => ?_
 have hs := hs.up3
 refine q_sto (o := 0) (cs := [.int .i64 ((S 0).F), .int .i64 ((S 0).T), .int .i64 ((ix : Nat) : Int), .int .i64 ((S 0).L), .slice a9 ((S 0).n) c10]) (vs' := [.int .i64 ((S 0).F), .int .i64 ((S 0).T), .int .i64 ((ix : Nat) : Int), .int .i64 ((S 0).L), .slice a9 ((S 0).n) c10]) hk hs rfl rfl rfl ty53 rfl rfl rfl rfl rfl rfl fun w hs => ?_
 refine q_v hk (w_as rfl) fun a hk => ?_
 refine c_end (x_t ?_)
 refine (wpIn_ret ?_)
 refine c_retG (vs := [.agg #[.int .i64 ((S 0).F), .int .i64 ((S 0).T), .int .i64 ((ix : Nat) : Int), .int .i64 ((S 0).L), .slice a9 ((S 0).n) c10], .int .i64 0]) hk rfl ⟨⟨_, rfl, lv_A ty53 (.blk (n := 5) (hs.mi 0 rfl) rfl) rfl⟩, rfl, trivial⟩ rfl ?_
 have hs := hs.drop
 have hs := hs.drop
 have hs := hs.toR (R' := R) (fun r hr => .of (by simp [hr]))
 exact ⟨_, _, _, rfl, hT, hs⟩
end Go.Proofs.YtdnkkbmpefhbjaaGreatDoor
namespace Go.Proofs.YtdnkkbmpefhbjaaGreatDoor
set_option linter.all false
open Go Go.RowKit Alg
def valN (s : Bool) (S : Nat → Shr) (m i : Nat) : Nat := (valZ s S m i).val
theorem combine_m {F0 : Nat → Prop} {W : World} {M R : List Res} (s : Bool) (m lc : Nat) (la : Option Addr) (S : Nat → Shr) (t : Option Nat) (evs : List Ev) (r : Res) (w0 : World) (hs : Sat F0 W (r :: M) R w0) (hS : HasR (shareR la m lc S) R) (hG : HasR laidR R) (HO : ShOk S m) (g : Good s S m) (hz : csErr S m = 0) (hm : m ≤ 255) (hn9 : (S 0).n ≤ 7) (hT : TapeIs t evs r) (he : evs.length ≤ 10000) : Calls Tryz.prog 44 [tval t, .slice la m lc].toArray w0 fun e w => ∃ r a k c, e = .returned (.tuple #[.slice a k c, .int .i64 (jErr (S 0).n (S 0).L (valN s S (thN S)))]) ∧ TapeIs t (evs ++ valsE (thN S) (S 0).n) r ∧ Sat F0 W (r :: row 5 1 (.slice a k c) k (el bc (jBytes (S 0).n (S 0).L (valN s S (thN S)))) :: M) R w := by
 have hm0 := g.m0
 refine c_enter (args := [tval t, .slice la m lc]) Tryz.func44 rfl rfl rfl fun a hk => ?_
 refine wS (wR ?_)
 refine q_v hk (w_as rfl) fun a hk => ?_
 refine q_v hk (w_as rfl) fun a hk => ?_
 refine c_end (x_t (wS (wR ?_)))
 refine q_v hk (w_mv rfl) fun a hk => ?_
 refine q_v hk (w_mv rfl) fun a hk => ?_
 refine q_call (caps := []) hk rfl rfl Tryz.func41 fo41 rfl rfl (values_m s m lc la S t evs _ _ hs (hS) (hG) HO g hz hm hn9 hT he) ?_
 rintro _ w ⟨r1, a2, c3, rfl, hT, hs⟩
 refine ⟨_, rfl, fun a hk => ?_⟩
 refine q_v hk (w_mv rfl) fun a hk => ?_
 refine q_v hk (w_ext rfl rfl) fun a hk => ?_
 refine q_v hk (w_ext rfl rfl) fun a hk => ?_
 refine q_v hk (w_as rfl) fun a hk => ?_
 refine q_v hk (w_as rfl) fun a hk => ?_
 refine c_end (x_t (wS (wS (wR ?_))))
 refine q_v hk (w_mv rfl) fun a hk => ?_
 refine q_v hk (w_ne rfl rfl (decide_eq_false (by decide))) fun a hk => ?_
 refine c_end (x_t ?_)
 refine c_F hk rfl ?_
 refine (wpIn_skip (x_t ?_))
 refine wS (wR ?_)
 refine q_v hk (w_mv rfl) fun a hk => ?_
 refine q_v hk (w_iaL (k := 0) rfl rfl Tryz.underlying22 ty53 ((share_lst hS).at_ hs) (by omega) (by omega)) fun a hk => ?_
 refine q_v hk (w_fa rfl fq53_0 ty3) fun a hk => ?_
 refine q_v hk (w_ld1 rfl ty3 (ic_eq (g.F 0 g.m0) (lstf (k := 0) (o := 0) (m := 1) ((share_lst hS).at_ hs) (by omega) (en_chunk shc_len (by omega)) rfl))) fun a hk => ?_
 refine q_call (caps := []) hk rfl rfl Tryz.func85 fo85 rfl rfl (get_c s _ ((hG).at_ hs)) ?_
 rintro _ w ⟨rfl, hb⟩
 have hs := hs.below hb
 refine ⟨_, rfl, fun a hk => ?_⟩
 refine q_v hk (w_mv rfl) fun a hk => ?_
 refine q_v hk (w_ext rfl rfl) fun a hk => ?_
 refine q_v hk (w_ext rfl rfl) fun a hk => ?_
 refine q_alc (vs := [.int .i64 0, .int .u64 0, .int .u64 0, .int .u64 0, .int .u64 0, .int .u64 0, .int .u64 0, .int .u64 0, .int .u64 0, .int .u64 0, .int .u64 0, .int .u64 0, .int .u64 0, .int .u64 0]) hk hs zr120 rfl rfl rfl fun b4 w a hk hs => ?_
 refine q_sto (o := 0) (cs := fieldL s) (vs' := fieldL s) hk hs rfl rfl rfl ty120 rfl rfl rfl rfl rfl rfl fun w hs => ?_
 refine q_v hk (w_as rfl) fun a hk => ?_
 refine c_end (x_t (wS ?_))
 have hL := okL.cons (hs.mi 0 rfl) (okL.cons ((share_lst hS).at_ hs) okL.nil)
 refine d_begin _ 11 (by kernel_rfl) rfl hs hL fun w hs hL => ?_
 refine d_w 0 1 hk hL rfl (fun w hL => w_ldA rfl ty120 (.blk (n := 14) (hL.at 0 rfl) rfl) rfl) fun a hk => ?_
 refine d_w 1 3 hk hL rfl (fun w hL => w_mv rfl) fun a hk => ?_
 refine d_w 2 7 hk hL rfl (fun w hL => w_mv rfl) fun a hk => ?_
 refine d_w 3 15 hk hL rfl (fun w hL => w_iaL (k := 0) rfl rfl Tryz.underlying22 ty53 (hL.at 1 rfl) (by omega) (by omega)) fun a hk => ?_
 refine d_w 4 31 hk hL rfl (fun w hL => w_fa rfl fq53_3 ty3) fun a hk => ?_
 refine d_w 5 63 hk hL rfl (fun w hL => w_ld1 rfl ty3 (lstf (k := 0) (o := 3) (m := 1) (hL.at 1 rfl) (by omega) (en_chunk shc_len (by omega)) rfl)) fun a hk => ?_
 refine d_1 6 127 rfl (by kernel_rfl) fun K hK => ?_
 refine q_call (caps := []) hk rfl rfl Tryz.func86 fo86 rfl rfl (joinQ s _ (S 0).n _ (S 0).L (valN s S (thN S)) _ (row_lst (hs.mi 2 rfl)) (fun i _ => (valZ s S (thN S) i).isLt)) ?_
 rintro _ w ⟨a1_6, k1_6b, c1_6c, rfl, hS⟩
 have hs := hs.call1 hS
 clear hS
 refine ⟨_, rfl, fun a hk => ?_⟩
 have hL := okL.cons (hs.mi 1 rfl) (okL.cons ((share_lst hS).at_ hs) okL.nil)
 refine c_end (x_t (hK _ _ hL ?_))
 clear hK K
 refine d_w 7 255 hk hL rfl (fun w hL => w_ext rfl rfl) fun a hk => ?_
 refine d_w 8 511 hk hL rfl (fun w hL => w_ext rfl rfl) fun a hk => ?_
 refine d_w 9 1023 hk hL rfl (fun w hL => w_as rfl) fun a hk => ?_
 refine d_w 10 2047 hk hL rfl (fun w hL => w_as rfl) fun a hk => ?_
 refine d_end (by kernel_rfl) ?_
 refine (x_t ?_)
 refine (wpIn_ret ?_)
 refine c_ret2 hk rfl rfl rfl ?_
 have hs := hs.up1
 have hs := hs.drop
 have hs := hs.up2
 have hs := hs.drop
 have hs := hs.up1
 exact ⟨_, _, _, _, rfl, hT, hs⟩
end Go.Proofs.YtdnkkbmpefhbjaaGreatDoor
namespace Go.Proofs.YtdnkkbmpefhbjaaGreatDoor
set_option linter.all false
open Go Go.RowKit Alg
end Go.Proofs.YtdnkkbmpefhbjaaGreatDoor
namespace Go.Proofs.YtdnkkbmpefhbjaaGreatDoor
set_option linter.all false
open Go Go.RowKit Alg
def upg {α : Type} (f : Nat → α) (k : Nat) (x : α) (i : Nat) : α := if i = k then x else f i
theorem upg_eq {α : Type} {f : Nat → α} {k : Nat} {x : α} : upg f k x k = x := if_pos rfl
theorem upg_ne {α : Type} {f : Nat → α} {k i : Nat} {x : α} (h : i ≠ k) : upg f k x i = f i := if_neg h
/-- A slice's cell: address, length, capacity. -/
def plx (x : Option Addr × Nat × Nat) : List Value := [.slice x.1 x.2.1 x.2.2]
theorem plx_len (x : Option Addr × Nat × Nat) : (plx x).length = 1 := rfl
/-- The first k rows of n numbers. -/
def rowB (T n : Nat) (pa : Nat → Option Addr) (pc : Nat → Nat) (X : Nat → Nat → Nat) (k : Nat) : Res := bun ((List.range k).map fun i => row T 4 (.slice (pa i) n (pc i)) n (en vq (X i) n))
section
variable {T n k c m : Nat} {a : Option Addr} {pa : Nat → Option Addr} {pc : Nat → Nat} {X : Nat → Nat → Nat} {Y : Nat → Nat} {F0 : Nat → Prop} {W w : World} {M R : List Res}
theorem rowB_none (hs : Sat F0 W M R w) : Sat F0 W (rowB T n pa pc X 0 :: M) R w := Sat.pack (l := []) hs
theorem rowB_add (hs : Sat F0 W (row T 4 (.slice a n c) n (en vq Y n) :: rowB T n pa pc X k :: M) R w) : Sat F0 W (rowB T n (upg pa k a) (upg pc k c) (upg X k Y) (k + 1) :: M) R w := by
  have h := (hs.up1).unpack
  have e : (List.range (k + 1)).map (fun i => row T 4 (.slice (upg pa k a i) n (upg pc k c i)) n (en vq (upg X k Y i) n)) = (List.range k).map (fun i => row T 4 (.slice (pa i) n (pc i)) n (en vq (X i) n)) ++ [row T 4 (.slice a n c) n (en vq Y n)] := by
    rw [List.range_succ, List.map_append]
    congr 1
    · exact List.map_congr_left fun i hi => by have := List.mem_range.1 hi; rw [upg_ne (by omega), upg_ne (by omega), upg_ne (by omega)]
    · simp [upg]
  refine Sat.pack (l := _) ?_
  rw [e, List.append_assoc]
  exact h
theorem plx_row : en plx (fun i => (pa i, n, pc i)) k ++ [.slice a n c] = en plx (fun i => (upg pa k a i, n, upg pc k c i)) (k + 1) := by
  have e : en plx (fun i => (upg pa k a i, n, upg pc k c i)) k = en plx (fun i => (pa i, n, pc i)) k := en_congr fun i hi => by rw [upg_ne (by omega), upg_ne (by omega)]
  have e2 : en plx (fun i => (upg pa k a i, n, upg pc k c i)) (k + 1) = en plx (fun i => (upg pa k a i, n, upg pc k c i)) k ++ plx (upg pa k a k, n, upg pc k c k) := en_succ.symm
  rw [e2, e, upg_eq, upg_eq]
  rfl
theorem rowB_lst (h : (rowB T n pa pc X m).ok w) (hk : k < m) : LstAt w 4 (.slice (pa k) n (pc k)) n (en vq (X k) n) := row_lst (h.1 _ (List.mem_map.2 ⟨k, List.mem_range.2 hk, rfl⟩))
end
theorem rem_step {t q k : Nat} (h : k < q) : t * (q - k) = t * (q - (k + 1)) + t := by
  obtain ⟨d, rfl⟩ : ∃ d, q = k + 1 + d := ⟨q - (k + 1), by omega⟩
  rw [show k + 1 + d - k = d + 1 by omega, show k + 1 + d - (k + 1) = d by omega, Nat.mul_succ]
/-- A chunk in front of other coefficients. -/
def consz {s : Bool} (z : Zp s) (E : Nat → Zp s) (j : Nat) : Zp s := if j = 0 then z else E (j - 1)
theorem cons_row {s : Bool} {z : Zp s} {E : Nat → Zp s} {x m : Nat} (hx : zv z = x) : el vq [x] ++ en vq (fun j => zv (E j)) m = en vq (fun j => zv (consz z E j)) (1 + m) := by
  subst hx
  have e : en vq (fun j => zv (consz z E j)) (1 + m) = en vq (fun j => zv (consz z E j)) 1 ++ en vq (fun j => zv (E j)) m := by
    unfold en
    rw [List.range_add, List.flatMap_append, List.flatMap_map]
    congr 1
    refine congrArg (fun g => List.flatMap g (List.range m)) (funext fun j => ?_)
    show vq (zv (if 1 + j = 0 then z else E (1 + j - 1))) = vq (zv (E j))
    rw [if_neg (by omega), show 1 + j - 1 = j by omega]
  rw [e]
  rfl
theorem cv_zv {s : Bool} {n i : Nat} {f : Nat → Nat} (hf : ∀ j, f j < 256) : zv (zn s (cv n f i)) = cv n f i := by
  show cv n f i % pr s = cv n f i
  refine Nat.mod_eq_of_lt (Nat.lt_of_lt_of_le ?_ (Nat.le_of_lt (pr_big s)))
  refine Nat.lt_of_lt_of_le (le_lt (fun j => hf _) _) (Nat.pow_le_pow_right (by decide) (cz_le n i))
theorem rpay2_c (s : Bool) (q qc n ix : Nat) (qa : Option Addr) (pa : Nat → Option Addr) (pc : Nat → Nat) (F : Nat → Nat → Zp s) (W : World) (HP : LstAt W 1 (.slice qa q qc) q (en plx (fun i => (pa i, n, pc i)) q)) (HB : (rowB 47 n pa pc (fun k j => zv (F k j)) q).ok W) (hix : ix ≤ 255) (hq : q ≤ 100000) (hn : n ≤ 1000) : Calls Tryz.prog 49 [vec (pr s), .slice qa q qc, .int .i64 ((ix : Nat) : Int)].toArray W fun e w => ∃ a c, e = .returned (.slice a q c) ∧ Sat no W [row 56 4 (.slice a q c) q (en vq (fun i => mq (rEv (F i) (zn s ix) n)) q)] [] w := by
 refine c_enter (args := [vec (pr s), .slice qa q qc, .int .i64 ((ix : Nat) : Int)]) Tryz.func49 rfl rfl rfl fun a hk => ?_
 have hs := Sat.start W [lst 1 (.slice qa q qc) q (en plx (fun i => (pa i, n, pc i)) q), rowB 47 n pa pc (fun k j => zv (F k j)) q] (okrc HP (okr1 HB))
 refine wS (wR ?_)
 refine q_box (vs := [.int .u64 ((dg 0 (pr s) : Nat) : Int), .int .u64 ((dg 1 (pr s) : Nat) : Int), .int .u64 ((dg 2 (pr s) : Nat) : Int), .int .u64 ((dg 3 (pr s) : Nat) : Int)]) hk hs rfl rfl rfl rfl fun b1 w a hk hs => ?_
 refine q_v hk (w_as rfl) fun a hk => ?_
 refine c_end (x_t (wS (wR ?_)))
 refine q_v hk (w_as rfl) fun a hk => ?_
 refine c_end (x_t (wS (wS (wR ?_))))
 refine q_v hk (w_as rfl) fun a hk => ?_
 refine c_end (x_t ?_)
 refine wpIn_block ?_
 have hs := hs.row0 56 4
 refine c_loop (α := Nat) (fun k a w => ∃ (ao : Option Addr) (co : Nat), k ≤ q ∧ Kn [] 31 [(8, .int .i64 (k : Int)), (7, .slice ao k co), (6, .slice none 0 0), (3, .pointer (some ⟨b1, 0, none⟩)), (1, .slice qa q qc), (2, .int .i64 ((ix : Nat) : Int))] a ∧ Sat no W [row 56 4 (.slice ao k co) k (en vq (fun i => mq (rEv (F i) (zn s ix) n)) k), blk b1 [.int .u64 ((dg 0 (pr s) : Nat) : Int), .int .u64 ((dg 1 (pr s) : Nat) : Int), .int .u64 ((dg 2 (pr s) : Nat) : Int), .int .u64 ((dg 3 (pr s) : Nat) : Int)] 47] [lst 1 (.slice qa q qc) q (en plx (fun i => (pa i, n, pc i)) q), rowB 47 n pa pc (fun k j => zv (F k j)) q] w) (fun k => q - k) 0 ?_ ?_
 · exact ⟨_, _, (by omega), hk.k rfl (hk.k rfl (hk.k rfl (hk.k rfl (hk.k rfl (hk.k rfl hk.nil))))), hs⟩
 rintro k a w ⟨ao, co, hf0, hk, hs⟩
 refine wS (wS (wR ?_))
 refine q_v hk (w_mv rfl) fun a hk => ?_
 refine q_v hk (w_mv rfl) fun a hk => ?_
 refine q_v hk (w_len rfl Tryz.underlying84) fun a hk => ?_
 rcases Classical.em ((k : Int) < ((q : Nat) : Int)) with hc2 | hc2
 ·
  have hlt : k < q := by omega
  refine q_v hk (w_lt rfl rfl (decide_eq_true hc2)) fun a hk => ?_
  refine c_end (x_t ?_)
  refine c_T hk rfl ?_
  refine (wpIn_skip (x_t ?_))
  refine wS ?_
  refine wpIn_block ?_
  refine wS ?_
  have hL := okL.cons (hs.mi 1 rfl) (okL.cons (hs.ri 0 rfl) okL.nil)
  refine d_begin _ 10 (by kernel_rfl) rfl hs hL fun w hs hL => ?_
  refine d_join (n2 := 1) 511 (fun a w => ∃ (b1_8 : Nat), Kn [] 31 [(9, .pointer (some ⟨b1_8, 0, none⟩)), (23, vec (zv (rEv (F k) (zn s ix) n))), (22, vec (zv (zn s ix))), (21, .int .i64 ((ix : Nat) : Int)), (20, .slice (pa k) n (pc k)), (19, .pointer (some ((adq qa).add (k * 1)))), (18, .int .i64 (k : Int)), (17, .slice qa q qc), (16, vec (pr s)), (13, .bool true), (12, .int .i64 ((q : Nat) : Int)), (11, .slice qa q qc), (10, .int .i64 (k : Int)), (8, .int .i64 (k : Int)), (7, .slice ao k co), (6, .slice none 0 0), (3, .pointer (some ⟨b1, 0, none⟩)), (1, .slice qa q qc), (2, .int .i64 ((ix : Nat) : Int))] a ∧ Sat no W [blk b1_8 [.int .u64 0, .int .u64 0, .int .u64 0, .int .u64 0] 47, row 56 4 (.slice ao k co) k (en vq (fun i => mq (rEv (F i) (zn s ix) n)) k), blk b1 [.int .u64 ((dg 0 (pr s) : Nat) : Int), .int .u64 ((dg 1 (pr s) : Nat) : Int), .int .u64 ((dg 2 (pr s) : Nat) : Int), .int .u64 ((dg 3 (pr s) : Nat) : Int)] 47] [lst 1 (.slice qa q qc) q (en plx (fun i => (pa i, n, pc i)) q), rowB 47 n pa pc (fun k j => zv (F k j)) q] w ∧ okL [blk b1 [.int .u64 ((dg 0 (pr s) : Nat) : Int), .int .u64 ((dg 1 (pr s) : Nat) : Int), .int .u64 ((dg 2 (pr s) : Nat) : Int), .int .u64 ((dg 3 (pr s) : Nat) : Int)] 47, lst 1 (.slice qa q qc) q (en plx (fun i => (pa i, n, pc i)) q)] w) ?_ ?_
  ·
   intro hJ511
   refine d_join (n2 := 2) 383 (fun a w => ∃ (b1_8 : Nat), Kn [] 31 [(9, .pointer (some ⟨b1_8, 0, none⟩)), (22, vec (zv (zn s ix))), (21, .int .i64 ((ix : Nat) : Int)), (20, .slice (pa k) n (pc k)), (19, .pointer (some ((adq qa).add (k * 1)))), (18, .int .i64 (k : Int)), (17, .slice qa q qc), (16, vec (pr s)), (13, .bool true), (12, .int .i64 ((q : Nat) : Int)), (11, .slice qa q qc), (10, .int .i64 (k : Int)), (8, .int .i64 (k : Int)), (7, .slice ao k co), (6, .slice none 0 0), (3, .pointer (some ⟨b1, 0, none⟩)), (1, .slice qa q qc), (2, .int .i64 ((ix : Nat) : Int))] a ∧ Sat no W [blk b1_8 [.int .u64 0, .int .u64 0, .int .u64 0, .int .u64 0] 47, row 56 4 (.slice ao k co) k (en vq (fun i => mq (rEv (F i) (zn s ix) n)) k), blk b1 [.int .u64 ((dg 0 (pr s) : Nat) : Int), .int .u64 ((dg 1 (pr s) : Nat) : Int), .int .u64 ((dg 2 (pr s) : Nat) : Int), .int .u64 ((dg 3 (pr s) : Nat) : Int)] 47] [lst 1 (.slice qa q qc) q (en plx (fun i => (pa i, n, pc i)) q), rowB 47 n pa pc (fun k j => zv (F k j)) q] w ∧ okL [blk b1 [.int .u64 ((dg 0 (pr s) : Nat) : Int), .int .u64 ((dg 1 (pr s) : Nat) : Int), .int .u64 ((dg 2 (pr s) : Nat) : Int), .int .u64 ((dg 3 (pr s) : Nat) : Int)] 47, lst 1 (.slice qa q qc) q (en plx (fun i => (pa i, n, pc i)) q)] w) ?_ ?_
   ·
    intro hJ383
    refine d_w 0 1 hk hL rfl (fun w hL => w_ldv (z := pr s) rfl ty47 (.blk (n := 4) (hL.at 0 rfl) rfl)) fun a hk => ?_
    refine d_w 1 3 hk hL rfl (fun w hL => w_mv rfl) fun a hk => ?_
    refine d_w 2 7 hk hL rfl (fun w hL => w_mv rfl) fun a hk => ?_
    refine d_w 3 15 hk hL rfl (fun w hL => w_iaL (k := k) rfl rfl Tryz.underlying84 ty72 (hL.at 1 rfl) (by omega) (by omega)) fun a hk => ?_
    refine d_w 4 31 hk hL rfl (fun w hL => w_ld1 rfl ty72 (lstq (k := k) (hL.at 1 rfl) (by omega) (en_chunk plx_len (by omega)))) fun a hk => ?_
    refine d_w 5 63 hk hL rfl (fun w hL => w_mv rfl) fun a hk => ?_
    refine d_2 6 8 127 319 rfl rfl (by kernel_rfl) (fun K hK => ?_) (fun K hK => ?_)
    ·
     refine q_call (caps := []) hk rfl rfl Tryz.func93 fo93 rfl rfl (rpoint_z s ix _ hix) ?_
     rintro _ w ⟨rfl, hb⟩
     have hs := hs.below hb
     refine ⟨_, rfl, fun a hk => ?_⟩
     have hL := okL.cons (hs.mi 1 rfl) (okL.cons (hs.ri 0 rfl) okL.nil)
     refine c_end (x_t (hK _ _ hL ?_))
     clear hK K
     refine d_2 7 8 255 383 rfl rfl (by kernel_rfl) (fun K hK => ?_) (fun K hK => ?_)
     ·
      refine q_call (caps := []) hk rfl rfl Tryz.func92 fo92 rfl rfl (reval_z s n (pc k) (pa k) (F k) (zn s ix) _ ((rowB_lst (k := k) (hs.ri 1 rfl) (by omega))) (by omega)) ?_
      rintro _ w ⟨rfl, hb⟩
      have hs := hs.below hb
      refine ⟨_, rfl, fun a hk => ?_⟩
      have hL := okL.cons (hs.mi 1 rfl) (okL.cons (hs.ri 0 rfl) okL.nil)
      refine c_end (x_t (hK _ _ hL ?_))
      clear hK K
      refine d_1 8 511 rfl (by kernel_rfl) fun K hK => ?_
      refine q_alc (vs := [.int .u64 0, .int .u64 0, .int .u64 0, .int .u64 0]) hk hs zr47 rfl rfl rfl fun b1_8 w a hk hs => ?_
      have hL := okL.cons (hs.mi 2 rfl) (okL.cons (hs.ri 0 rfl) okL.nil)
      refine c_end (x_t (hK _ _ hL ?_))
      clear hK K
      have hL := okL.cons (hs.mi 2 rfl) (okL.cons (hs.ri 0 rfl) okL.nil)
      exact hJ511 _ _ ⟨_, hk.k rfl (hk.k rfl (hk.k rfl (hk.k rfl (hk.k rfl (hk.k rfl (hk.k rfl (hk.k rfl (hk.k rfl (hk.k rfl (hk.k rfl (hk.k rfl (hk.k rfl (hk.k rfl (hk.k rfl (hk.k rfl (hk.k rfl (hk.k rfl (hk.k rfl hk.nil)))))))))))))))))), hs, hL⟩
     ·
      refine q_alc (vs := [.int .u64 0, .int .u64 0, .int .u64 0, .int .u64 0]) hk hs zr47 rfl rfl rfl fun b1_8 w a hk hs => ?_
      have hL := okL.cons (hs.mi 2 rfl) (okL.cons (hs.ri 0 rfl) okL.nil)
      refine c_end (x_t (hK _ _ hL ?_))
      clear hK K
      have hL := okL.cons (hs.mi 2 rfl) (okL.cons (hs.ri 0 rfl) okL.nil)
      exact hJ383 _ _ ⟨_, hk.k rfl (hk.k rfl (hk.k rfl (hk.k rfl (hk.k rfl (hk.k rfl (hk.k rfl (hk.k rfl (hk.k rfl (hk.k rfl (hk.k rfl (hk.k rfl (hk.k rfl (hk.k rfl (hk.k rfl (hk.k rfl (hk.k rfl (hk.k rfl hk.nil))))))))))))))))), hs, hL⟩
    ·
     refine q_alc (vs := [.int .u64 0, .int .u64 0, .int .u64 0, .int .u64 0]) hk hs zr47 rfl rfl rfl fun b1_8 w a hk hs => ?_
     have hL := okL.cons (hs.mi 2 rfl) (okL.cons (hs.ri 0 rfl) okL.nil)
     refine c_end (x_t (hK _ _ hL ?_))
     clear hK K
     refine d_1 6 383 rfl (by kernel_rfl) fun K hK => ?_
     refine q_call (caps := []) hk rfl rfl Tryz.func93 fo93 rfl rfl (rpoint_z s ix _ hix) ?_
     rintro _ w ⟨rfl, hb⟩
     have hs := hs.below hb
     refine ⟨_, rfl, fun a hk => ?_⟩
     have hL := okL.cons (hs.mi 2 rfl) (okL.cons (hs.ri 0 rfl) okL.nil)
     refine c_end (x_t (hK _ _ hL ?_))
     clear hK K
     have hL := okL.cons (hs.mi 2 rfl) (okL.cons (hs.ri 0 rfl) okL.nil)
     exact hJ383 _ _ ⟨_, hk.k rfl (hk.k rfl (hk.k rfl (hk.k rfl (hk.k rfl (hk.k rfl (hk.k rfl (hk.k rfl (hk.k rfl (hk.k rfl (hk.k rfl (hk.k rfl (hk.k rfl (hk.k rfl (hk.k rfl (hk.k rfl (hk.k rfl (hk.k rfl hk.nil))))))))))))))))), hs, hL⟩
   ·
    rintro a w ⟨b1_8, hk, hs, hL⟩
    refine d_1 7 511 rfl (by kernel_rfl) fun K hK => ?_
    refine q_call (caps := []) hk rfl rfl Tryz.func92 fo92 rfl rfl (reval_z s n (pc k) (pa k) (F k) (zn s ix) _ ((rowB_lst (k := k) (hs.ri 1 rfl) (by omega))) (by omega)) ?_
    rintro _ w ⟨rfl, hb⟩
    have hs := hs.below hb
    refine ⟨_, rfl, fun a hk => ?_⟩
    have hL := okL.cons (hs.mi 2 rfl) (okL.cons (hs.ri 0 rfl) okL.nil)
    refine c_end (x_t (hK _ _ hL ?_))
    clear hK K
    have hL := okL.cons (hs.mi 2 rfl) (okL.cons (hs.ri 0 rfl) okL.nil)
    exact hJ511 _ _ ⟨_, hk.k rfl (hk.k rfl (hk.k rfl (hk.k rfl (hk.k rfl (hk.k rfl (hk.k rfl (hk.k rfl (hk.k rfl (hk.k rfl (hk.k rfl (hk.k rfl (hk.k rfl (hk.k rfl (hk.k rfl (hk.k rfl (hk.k rfl (hk.k rfl (hk.k rfl hk.nil)))))))))))))))))), hs, hL⟩
  ·
   rintro a w ⟨b1_8, hk, hs, hL⟩
   refine d_1 9 1023 rfl (by kernel_rfl) fun K hK => ?_
   refine q_sto (o := 0) (cs := [.int .u64 ((dg 0 (zv (rEv (F k) (zn s ix) n)) : Nat) : Int), .int .u64 ((dg 1 (zv (rEv (F k) (zn s ix) n)) : Nat) : Int), .int .u64 ((dg 2 (zv (rEv (F k) (zn s ix) n)) : Nat) : Int), .int .u64 ((dg 3 (zv (rEv (F k) (zn s ix) n)) : Nat) : Int)]) (vs' := [.int .u64 ((dg 0 (zv (rEv (F k) (zn s ix) n)) : Nat) : Int), .int .u64 ((dg 1 (zv (rEv (F k) (zn s ix) n)) : Nat) : Int), .int .u64 ((dg 2 (zv (rEv (F k) (zn s ix) n)) : Nat) : Int), .int .u64 ((dg 3 (zv (rEv (F k) (zn s ix) n)) : Nat) : Int)]) hk hs rfl rfl rfl ty47 rfl rfl rfl rfl rfl rfl fun w hs => ?_
   have hL := okL.cons (hs.mi 2 rfl) (okL.cons (hs.ri 0 rfl) okL.nil)
   refine c_end (x_t (hK _ _ hL ?_))
   clear hK K
   refine d_end (by kernel_rfl) ?_
   refine (x_t ?_)
   refine wR ?_
   refine q_v hk (w_mv rfl) fun a hk => ?_
   refine q_v hk (w_ldv (z := pr s) rfl ty47 (.blk (n := 4) (hs.mi 2 rfl) rfl)) fun a hk => ?_
   refine q_v hk (w_ldv (z := zv (rEv (F k) (zn s ix) n)) rfl ty47 (.blk (n := 4) (hs.mi 0 rfl) rfl)) fun a hk => ?_
   refine q_call (caps := []) hk rfl rfl Tryz.func43 fo43 rfl rfl (rform_z (x := rEv (F k) (zn s ix) n) _ rfl) ?_
   rintro _ w ⟨rfl, hb⟩
   have hs := hs.below hb
   refine ⟨_, rfl, fun a hk => ?_⟩
   refine q_bsl (els := [.tmp 27]) (cs := [.int .u64 ((dg 0 (mq (rEv (F k) (zn s ix) n)) : Nat) : Int), .int .u64 ((dg 1 (mq (rEv (F k) (zn s ix) n)) : Nat) : Int), .int .u64 ((dg 2 (mq (rEv (F k) (zn s ix) n)) : Nat) : Int), .int .u64 ((dg 3 (mq (rEv (F k) (zn s ix) n)) : Nat) : Int)]) hk hs rfl Tryz.underlying51 ty56 zr56 rfl rfl rfl rfl rfl rfl rfl fun b3 w a hk hs => ?_
   have hs := hs.up2
   refine q_app (news := [.int .u64 ((dg 0 (mq (rEv (F k) (zn s ix) n)) : Nat) : Int), .int .u64 ((dg 1 (mq (rEv (F k) (zn s ix) n)) : Nat) : Int), .int .u64 ((dg 2 (mq (rEv (F k) (zn s ix) n)) : Nat) : Int), .int .u64 ((dg 3 (mq (rEv (F k) (zn s ix) n)) : Nat) : Int)]) (m := 1) hk hs rfl rfl Tryz.underlying51 ty56 zr56 rfl rfl (.blk (n := 4) (hs.mi 1 rfl) rfl) rfl rfl (by omega) (by omega) rfl rfl fun a4 c5 w a hk hs => ?_
   have hs := hs.up1
   have hs := hs.drop
   refine q_v hk (w_as rfl) fun a hk => ?_
   refine (c_end (x_b (x_t ?_)))
   refine wR ?_
   refine q_v hk (w_mv rfl) fun a hk => ?_
   refine q_v hk (w_add rfl rfl (wr64 (by omega) (by omega))) fun a hk => ?_
   refine q_v hk (w_as rfl) fun a hk => ?_
   refine c_end (x_t ?_)
   have hs := hs.rw0 (congrArg _ en_succ)
   have hs := hs.up1
   have hs := hs.drop
   exact ⟨k + 1, ⟨_, _, (by omega), hk.k rfl (hk.k rfl (hk.k rfl (hk.k rfl (hk.k rfl (hk.k rfl hk.nil))))), hs⟩, by omega⟩
 ·
  refine q_v hk (w_lt rfl rfl (decide_eq_false hc2)) fun a hk => ?_
  refine c_end (x_t ?_)
  refine c_F hk rfl ?_
  refine (wpIn_exit (x_te (x_te (x_be ?_))))
  refine (x_t ?_)
  refine wS (wR ?_)
  refine q_v hk (w_mv rfl) fun a hk => ?_
  refine q_v hk (w_as rfl) fun a hk => ?_
  refine c_end (x_t ?_)
  refine (wpIn_ret ?_)
  refine c_ret1 hk rfl rfl ?_
  have hs := hs.up1
  have hs := hs.drop
  have hkq : k = q := by omega
  rw [hkq] at hs ⊢
  exact ⟨_, _, rfl, hs.fin⟩
end Go.Proofs.YtdnkkbmpefhbjaaGreatDoor
namespace Go.Proofs.YtdnkkbmpefhbjaaGreatDoor
set_option linter.all false
open Go Go.RowKit Alg
theorem prErr_0 {F T N L : Int} (h : prErr F T N L = 0) : (F = 1 ∨ F = 2) ∧ 1 ≤ N ∧ N ≤ 255 ∧ 1 ≤ T ∧ T ≤ N ∧ 0 ≤ L ∧ L ≤ 65535 := by
  unfold prErr at h
  split at h
  · split at h
    · split at h
      · split at h
        · omega
        · omega
      · omega
    · omega
  · omega
theorem cn_bound (n : Nat) : cn (n : Int) ≤ 2115 := by unfold cn; split <;> omega
theorem upg_all {α : Type} {f : Nat → α} {k : Nat} {x : α} {p : Nat → α → Prop} (h : ∀ i, i < k → p i (f i)) (hx : p k x) : ∀ i, i < k + 1 → p i (upg f k x i) := fun i hi => by
  by_cases e : i = k
  · subst e; rw [upg_eq]; exact hx
  · rw [upg_ne e]; exact h i (by omega)
theorem updz_upg {s : Bool} {F : Nat → Nat → Zp s} {k : Nat} {E : Nat → Zp s} {T n m : Nat} {pa : Nat → Option Addr} {pc : Nat → Nat} : rowB T n pa pc (upg (fun k j => zv (F k j)) k (fun j => zv (E j))) m = rowB T n pa pc (fun i j => zv (upg F k E i j)) m := by
  have e : upg (fun k j => zv (F k j)) k (fun j => zv (E j)) = fun i j => zv (upg F k E i j) := by
    funext i j
    unfold upg
    split <;> rfl
  rw [e]
theorem refCkPar_c (F T N L : Int) (W : World)  : Calls Tryz.prog 107 [.agg #[.int .i64 F, .int .i64 T, .int .i64 N, .int .i64 L]].toArray W fun e w => e = .returned (.int .i64 (prErr F T N L)) ∧ Below W.heap.size W w := by
 refine c_enter (args := [.agg #[.int .i64 F, .int .i64 T, .int .i64 N, .int .i64 L]]) Tryz.func107 rfl rfl rfl fun a hk => ?_
 have hs := Sat.start W [] (fun _ h => by cases h)
 refine wS (wR ?_)
 refine q_box (vs := [.int .i64 F, .int .i64 T, .int .i64 N, .int .i64 L]) hk hs rfl rfl rfl rfl fun b1 w a hk hs => ?_
 refine q_v hk (w_as rfl) fun a hk => ?_
 refine c_end (x_t (wS ?_))
 refine wpIn_block ?_
 refine wS (wR ?_)
 refine q_v hk (w_fa rfl fq41_0 ty3) fun a hk => ?_
 refine q_v hk (w_ld1 rfl ty3 (.blk (n := 1) (hs.mi 0 rfl) rfl)) fun a hk => ?_
 rcases Classical.em (F = 1 ∨ F = 2) with hc2 | hc2
 ·
  refine q_call (caps := []) hk rfl rfl Tryz.func102 fo102 rfl rfl (known_t _ _ hc2) ?_
  rintro _ _ ⟨rfl, rfl⟩
  refine ⟨_, rfl, fun a hk => ?_⟩
  refine q_v hk (w_not rfl) fun a hk => ?_
  refine q_v hk (w_as rfl) fun a hk => ?_
  refine c_end (x_t ?_)
  refine c_F hk rfl ?_
  refine wS (wR ?_)
  refine q_v hk (w_fa rfl fq41_2 ty3) fun a hk => ?_
  refine q_v hk (w_ld1 rfl ty3 (.blk (n := 1) (hs.mi 0 rfl) rfl)) fun a hk => ?_
  rcases Classical.em (N < 1) with hc3 | hc3
  ·
   refine q_v hk (w_lt rfl rfl (decide_eq_true hc3)) fun a hk => ?_
   refine q_v hk (w_mv rfl) fun a hk => ?_
   refine q_skip hk rfl rfl fun a hk => ?_
   refine q_skip hk rfl rfl fun a hk => ?_
   refine q_skip hk rfl rfl fun a hk => ?_
   refine q_v hk (w_pickT rfl rfl) fun a hk => ?_
   refine q_v hk (w_as rfl) fun a hk => ?_
   refine c_end (x_t ?_)
   refine c_T hk rfl ?_
   refine wS (wR ?_)
   refine q_v hk (w_as rfl) fun a hk => ?_
   refine c_end (x_t ?_)
   refine (wpIn_ret (x_br (x_tr ?_)))
   refine c_ret1 hk rfl rfl ?_
   refine ⟨?_, hs.toBelow⟩
   unfold prErr
   (repeat' split) <;> first | rfl | omega | contradiction
  ·
   refine q_v hk (w_lt rfl rfl (decide_eq_false hc3)) fun a hk => ?_
   refine q_v hk (w_mv rfl) fun a hk => ?_
   refine q_v hk (w_fa rfl fq41_2 ty3) fun a hk => ?_
   refine q_v hk (w_ld1 rfl ty3 (.blk (n := 1) (hs.mi 0 rfl) rfl)) fun a hk => ?_
   rcases Classical.em (255 < N) with hc4 | hc4
   ·
    refine q_v hk (w_gt rfl rfl (decide_eq_true hc4)) fun a hk => ?_
    refine q_v hk (w_pickF rfl rfl) fun a hk => ?_
    refine q_v hk (w_as rfl) fun a hk => ?_
    refine c_end (x_t ?_)
    refine c_T hk rfl ?_
    refine wS (wR ?_)
    refine q_v hk (w_as rfl) fun a hk => ?_
    refine c_end (x_t ?_)
    refine (wpIn_ret (x_br (x_tr ?_)))
    refine c_ret1 hk rfl rfl ?_
    refine ⟨?_, hs.toBelow⟩
    unfold prErr
    (repeat' split) <;> first | rfl | omega | contradiction
   ·
    refine q_v hk (w_gt rfl rfl (decide_eq_false hc4)) fun a hk => ?_
    refine q_v hk (w_pickF rfl rfl) fun a hk => ?_
    refine q_v hk (w_as rfl) fun a hk => ?_
    refine c_end (x_t ?_)
    refine c_F hk rfl ?_
    refine wS (wR ?_)
    refine q_v hk (w_fa rfl fq41_1 ty3) fun a hk => ?_
    refine q_v hk (w_ld1 rfl ty3 (.blk (n := 1) (hs.mi 0 rfl) rfl)) fun a hk => ?_
    rcases Classical.em (T < 1) with hc5 | hc5
    ·
     refine q_v hk (w_lt rfl rfl (decide_eq_true hc5)) fun a hk => ?_
     refine q_v hk (w_mv rfl) fun a hk => ?_
     refine q_skip hk rfl rfl fun a hk => ?_
     refine q_skip hk rfl rfl fun a hk => ?_
     refine q_skip hk rfl rfl fun a hk => ?_
     refine q_skip hk rfl rfl fun a hk => ?_
     refine q_skip hk rfl rfl fun a hk => ?_
     refine q_v hk (w_pickT rfl rfl) fun a hk => ?_
     refine q_v hk (w_as rfl) fun a hk => ?_
     refine c_end (x_t ?_)
     refine c_T hk rfl ?_
     refine wS (wR ?_)
     refine q_v hk (w_as rfl) fun a hk => ?_
     refine c_end (x_t ?_)
     refine (wpIn_ret (x_br (x_tr ?_)))
     refine c_ret1 hk rfl rfl ?_
     refine ⟨?_, hs.toBelow⟩
     unfold prErr
     (repeat' split) <;> first | rfl | omega | contradiction
    ·
     refine q_v hk (w_lt rfl rfl (decide_eq_false hc5)) fun a hk => ?_
     refine q_v hk (w_mv rfl) fun a hk => ?_
     refine q_v hk (w_fa rfl fq41_1 ty3) fun a hk => ?_
     refine q_v hk (w_ld1 rfl ty3 (.blk (n := 1) (hs.mi 0 rfl) rfl)) fun a hk => ?_
     refine q_v hk (w_fa rfl fq41_2 ty3) fun a hk => ?_
     refine q_v hk (w_ld1 rfl ty3 (.blk (n := 1) (hs.mi 0 rfl) rfl)) fun a hk => ?_
     rcases Classical.em (N < T) with hc6 | hc6
     ·
      refine q_v hk (w_gt rfl rfl (decide_eq_true hc6)) fun a hk => ?_
      refine q_v hk (w_pickF rfl rfl) fun a hk => ?_
      refine q_v hk (w_as rfl) fun a hk => ?_
      refine c_end (x_t ?_)
      refine c_T hk rfl ?_
      refine wS (wR ?_)
      refine q_v hk (w_as rfl) fun a hk => ?_
      refine c_end (x_t ?_)
      refine (wpIn_ret (x_br (x_tr ?_)))
      refine c_ret1 hk rfl rfl ?_
      refine ⟨?_, hs.toBelow⟩
      unfold prErr
      (repeat' split) <;> first | rfl | omega | contradiction
     ·
      refine q_v hk (w_gt rfl rfl (decide_eq_false hc6)) fun a hk => ?_
      refine q_v hk (w_pickF rfl rfl) fun a hk => ?_
      refine q_v hk (w_as rfl) fun a hk => ?_
      refine c_end (x_t ?_)
      refine c_F hk rfl ?_
      refine wS (wR ?_)
      refine q_v hk (w_fa rfl fq41_3 ty3) fun a hk => ?_
      refine q_v hk (w_ld1 rfl ty3 (.blk (n := 1) (hs.mi 0 rfl) rfl)) fun a hk => ?_
      rcases Classical.em (L < 0) with hc7 | hc7
      ·
       refine q_v hk (w_lt rfl rfl (decide_eq_true hc7)) fun a hk => ?_
       refine q_v hk (w_mv rfl) fun a hk => ?_
       refine q_skip hk rfl rfl fun a hk => ?_
       refine q_skip hk rfl rfl fun a hk => ?_
       refine q_skip hk rfl rfl fun a hk => ?_
       refine q_v hk (w_pickT rfl rfl) fun a hk => ?_
       refine q_v hk (w_as rfl) fun a hk => ?_
       refine c_end (x_t ?_)
       refine c_T hk rfl ?_
       refine wS (wR ?_)
       refine q_v hk (w_as rfl) fun a hk => ?_
       refine c_end (x_t ?_)
       refine (wpIn_ret (x_br (x_tr ?_)))
       refine c_ret1 hk rfl rfl ?_
       refine ⟨?_, hs.toBelow⟩
       unfold prErr
       (repeat' split) <;> first | rfl | omega | contradiction
      ·
       refine q_v hk (w_lt rfl rfl (decide_eq_false hc7)) fun a hk => ?_
       refine q_v hk (w_mv rfl) fun a hk => ?_
       refine q_v hk (w_fa rfl fq41_3 ty3) fun a hk => ?_
       refine q_v hk (w_ld1 rfl ty3 (.blk (n := 1) (hs.mi 0 rfl) rfl)) fun a hk => ?_
       rcases Classical.em (65535 < L) with hc8 | hc8
       ·
        refine q_v hk (w_gt rfl rfl (decide_eq_true hc8)) fun a hk => ?_
        refine q_v hk (w_pickF rfl rfl) fun a hk => ?_
        refine q_v hk (w_as rfl) fun a hk => ?_
        refine c_end (x_t ?_)
        refine c_T hk rfl ?_
        refine wS (wR ?_)
        refine q_v hk (w_as rfl) fun a hk => ?_
        refine c_end (x_t ?_)
        refine (wpIn_ret (x_br (x_tr ?_)))
        refine c_ret1 hk rfl rfl ?_
        refine ⟨?_, hs.toBelow⟩
        unfold prErr
        (repeat' split) <;> first | rfl | omega | contradiction
       ·
        refine q_v hk (w_gt rfl rfl (decide_eq_false hc8)) fun a hk => ?_
        refine q_v hk (w_pickF rfl rfl) fun a hk => ?_
        refine q_v hk (w_as rfl) fun a hk => ?_
        refine c_end (x_t ?_)
        refine c_F hk rfl ?_
        refine (wpIn_skip (x_b (x_t ?_)))
        refine wS (wR ?_)
        refine q_v hk (w_as rfl) fun a hk => ?_
        refine c_end (x_t ?_)
        refine (wpIn_ret ?_)
        refine c_ret1 hk rfl rfl ?_
        refine ⟨?_, hs.toBelow⟩
        unfold prErr
        (repeat' split) <;> first | rfl | omega | contradiction
 ·
  refine q_call (caps := []) hk rfl rfl Tryz.func102 fo102 rfl rfl (known_f _ _ hc2) ?_
  rintro _ _ ⟨rfl, rfl⟩
  refine ⟨_, rfl, fun a hk => ?_⟩
  refine q_v hk (w_not rfl) fun a hk => ?_
  refine q_v hk (w_as rfl) fun a hk => ?_
  refine c_end (x_t ?_)
  refine c_T hk rfl ?_
  refine wS (wR ?_)
  refine q_v hk (w_as rfl) fun a hk => ?_
  refine c_end (x_t ?_)
  refine (wpIn_ret (x_br (x_tr ?_)))
  refine c_ret1 hk rfl rfl ?_
  refine ⟨?_, hs.toBelow⟩
  unfold prErr
  (repeat' split) <;> first | rfl | omega | contradiction
theorem rrnd_c (s : Bool) (th ln : Nat) (N : Int) (W : World) (h0 : prErr (fid s) ((th : Nat) : Int) N ((ln : Nat) : Int) = 0) : Calls Tryz.prog 108 [.agg #[.int .i64 (fid s), .int .i64 ((th : Nat) : Int), .int .i64 N, .int .i64 ((ln : Nat) : Int)]].toArray W fun e w => e = .returned (.int .i64 ((64 * (th - 1) * (cn ((ln : Nat) : Int)) : Nat) : Int)) ∧ Below W.heap.size W w := by
 obtain ⟨_, h1, h2, h3, h4, h5, h6⟩ := prErr_0 h0
 have hcn := cn_bound ln
 obtain ⟨tm, htm⟩ : ∃ tm, th = tm + 1 := ⟨th - 1, by omega⟩
 rw [show th - 1 = tm by omega]
 obtain ⟨qq, hqq⟩ : ∃ qq, 64 * tm * (cn ((ln : Nat) : Int)) = qq := ⟨_, rfl⟩
 have hq9 : qq ≤ 64 * 255 * 2115 := by rw [← hqq]; exact Nat.mul_le_mul (Nat.mul_le_mul_left _ (by omega)) hcn
 refine c_enter (args := [.agg #[.int .i64 (fid s), .int .i64 ((th : Nat) : Int), .int .i64 N, .int .i64 ((ln : Nat) : Int)]]) Tryz.func108 rfl rfl rfl fun a hk => ?_
 have hs := Sat.start W [] (fun _ h => by cases h)
 refine wS (wR ?_)
 refine q_box (vs := [.int .i64 (fid s), .int .i64 ((th : Nat) : Int), .int .i64 N, .int .i64 ((ln : Nat) : Int)]) hk hs rfl rfl rfl rfl fun b1 w a hk hs => ?_
 refine q_v hk (w_as rfl) fun a hk => ?_
 refine c_end (x_t (wS (wS (wR ?_))))
 refine q_v hk (w_ldA rfl ty41 (.blk (n := 4) (hs.mi 0 rfl) rfl) rfl) fun a hk => ?_
 refine q_call (caps := []) hk rfl rfl Tryz.func107 fo107 rfl rfl (refCkPar_c (fid s) ((th : Nat) : Int) N ((ln : Nat) : Int) _) ?_
 rintro _ w ⟨rfl, hb⟩
 have hs := hs.below hb
 refine ⟨_, rfl, fun a hk => ?_⟩
 refine q_v hk (w_ne rfl rfl (decide_eq_false (fun h => h h0))) fun a hk => ?_
 refine c_end (x_t ?_)
 refine c_F hk rfl ?_
 refine (wpIn_skip (x_t ?_))
 refine wS ?_
 have hL := okL.cons (hs.mi 0 rfl) okL.nil
 refine d_begin _ 9 (by kernel_rfl) rfl hs hL fun w hs hL => ?_
 refine d_w 0 1 hk hL rfl (fun w hL => w_fa rfl fq41_1 ty3) fun a hk => ?_
 refine d_w 1 3 hk hL rfl (fun w hL => w_ld1 rfl ty3 (.blk (n := 1) (hL.at 0 rfl) rfl)) fun a hk => ?_
 refine d_w 2 7 hk hL rfl (fun w hL => w_sub (r := ((tm : Nat) : Int)) rfl rfl (by rw [wr64 (by omega) (by omega)]; omega)) fun a hk => ?_
 refine d_w 3 15 hk hL rfl (fun w hL => w_mul (r := ((64 * tm : Nat) : Int)) rfl rfl (by rw [wr64 (by omega) (by omega)]; omega)) fun a hk => ?_
 refine d_w 4 31 hk hL rfl (fun w hL => w_fa rfl fq41_3 ty3) fun a hk => ?_
 refine d_w 5 63 hk hL rfl (fun w hL => w_ld1 rfl ty3 (.blk (n := 1) (hL.at 0 rfl) rfl)) fun a hk => ?_
 refine d_1 6 127 rfl (by kernel_rfl) fun K hK => ?_
 refine q_call (caps := []) hk rfl rfl Tryz.func103 fo103 rfl rfl (refCount_c ((ln : Nat) : Int) (by omega) _) ?_
 rintro _ _ ⟨rfl, rfl⟩
 refine ⟨_, rfl, fun a hk => ?_⟩
 have hL := okL.cons (hs.mi 0 rfl) okL.nil
 refine c_end (x_t (hK _ _ hL ?_))
 clear hK K
 refine d_w 7 255 hk hL rfl (fun w hL => w_mul (r := ((qq : Nat) : Int)) rfl rfl (by rw [← Int.natCast_mul, hqq]; exact wr64 (by omega) (by omega))) fun a hk => ?_
 refine d_w 8 511 hk hL rfl (fun w hL => w_as rfl) fun a hk => ?_
 refine d_end (by kernel_rfl) ?_
 refine (x_t ?_)
 refine (wpIn_ret ?_)
 refine c_ret1 hk rfl rfl ?_
 rw [hqq]; exact ⟨rfl, hs.toBelow⟩
theorem poly16_c (s : Bool) (th ln rn sc rc : Nat) (N : Int) (sa ra : Option Addr) (f fr : Nat → Nat) (W : World) (h0 : prErr (fid s) ((th : Nat) : Int) N ((ln : Nat) : Int) = 0) (HS : LstAt W 1 (.slice sa ln sc) ln (en bc f ln)) (hf : ∀ j, f j < 256) (HR : LstAt W 1 (.slice ra rn rc) rn (en bc fr rn)) (hfr : ∀ j, fr j < 256) (hr : 64 * (th - 1) * (cn ((ln : Nat) : Int)) ≤ rn) (hr9 : rn ≤ 100000000) : Calls Tryz.prog 64 [.agg #[.int .i64 (fid s), .int .i64 ((th : Nat) : Int), .int .i64 N, .int .i64 ((ln : Nat) : Int)], .slice sa ln sc, .slice ra rn rc].toArray W fun e w => ∃ pa pc, ∃ F : Nat → Nat → Zp s, ∃ a c, (∀ i, i < (cn ((ln : Nat) : Int)) → F i 0 = zn s (cv ln f i)) ∧ e = .returned (.tuple #[.slice a (cn ((ln : Nat) : Int)) c, .int .i64 0]) ∧ Sat no W [row 72 1 (.slice a (cn ((ln : Nat) : Int)) c) (cn ((ln : Nat) : Int)) (en plx (fun i => (pa i, th, pc i)) (cn ((ln : Nat) : Int))), rowB 47 th pa pc (fun k j => zv (F k j)) (cn ((ln : Nat) : Int))] [] w := by
 obtain ⟨_, h1, h2, h3, h4, h5, h6⟩ := prErr_0 h0
 have hcn := cn_bound ln
 have hrn : 64 * ((th - 1) * ((cn ((ln : Nat) : Int)) - 0)) ≤ rn := by rw [Nat.sub_zero, ← Nat.mul_assoc]; exact hr
 refine c_enter (args := [.agg #[.int .i64 (fid s), .int .i64 ((th : Nat) : Int), .int .i64 N, .int .i64 ((ln : Nat) : Int)], .slice sa ln sc, .slice ra rn rc]) Tryz.func64 rfl rfl rfl fun a hk => ?_
 have hs := Sat.start W [lst 1 (.slice sa ln sc) ln (en bc (fun i => f i) ln), lst 1 (.slice ra rn rc) rn (en bc (fun i => fr i) rn)] (okrc HS (okr1 HR))
 refine wS (wR ?_)
 refine q_box (vs := [.int .i64 (fid s), .int .i64 ((th : Nat) : Int), .int .i64 N, .int .i64 ((ln : Nat) : Int)]) hk hs rfl rfl rfl rfl fun b1 w a hk hs => ?_
 refine q_v hk (w_as rfl) fun a hk => ?_
 refine q_v hk (w_as rfl) fun a hk => ?_
 refine c_end (x_t (wS (wR ?_)))
 refine q_v hk (w_ldA rfl ty41 (.blk (n := 4) (hs.mi 0 rfl) rfl) rfl) fun a hk => ?_
 refine q_call (caps := []) hk rfl rfl Tryz.func107 fo107 rfl rfl (refCkPar_c (fid s) ((th : Nat) : Int) N ((ln : Nat) : Int) _) ?_
 rintro _ w ⟨rfl, hb⟩
 have hs := hs.below hb
 refine ⟨_, rfl, fun a hk => ?_⟩
 refine q_v hk (w_as rfl) fun a hk => ?_
 refine c_end (x_t (wS (wS (wR ?_))))
 refine q_v hk (w_mv rfl) fun a hk => ?_
 refine q_v hk (w_ne rfl rfl (decide_eq_false (fun h => h h0))) fun a hk => ?_
 refine c_end (x_t ?_)
 refine c_F hk rfl ?_
 refine (wpIn_skip (x_t ?_))
 refine wS (wS (wR ?_))
 refine q_v hk (w_mv rfl) fun a hk => ?_
 refine q_v hk (w_len rfl Tryz.underlying42) fun a hk => ?_
 refine q_v hk (w_fa rfl fq41_3 ty3) fun a hk => ?_
 refine q_v hk (w_ld1 rfl ty3 (.blk (n := 1) (hs.mi 0 rfl) rfl)) fun a hk => ?_
 refine q_v hk (w_ne rfl rfl (decide_eq_false (by omega))) fun a hk => ?_
 refine c_end (x_t ?_)
 refine c_F hk rfl ?_
 refine (wpIn_skip (x_t ?_))
 refine wS (wS (wR ?_))
 refine q_v hk (w_mv rfl) fun a hk => ?_
 refine q_v hk (w_len rfl Tryz.underlying42) fun a hk => ?_
 refine q_v hk (w_ldA rfl ty41 (.blk (n := 4) (hs.mi 0 rfl) rfl) rfl) fun a hk => ?_
 refine q_call (caps := []) hk rfl rfl Tryz.func108 fo108 rfl rfl (rrnd_c s th ln N _ h0) ?_
 rintro _ w ⟨rfl, hb⟩
 have hs := hs.below hb
 refine ⟨_, rfl, fun a hk => ?_⟩
 refine q_v hk (w_lt rfl rfl (decide_eq_false (by omega))) fun a hk => ?_
 refine c_end (x_t ?_)
 refine c_F hk rfl ?_
 refine (wpIn_skip (x_t ?_))
 refine wS (wR ?_)
 refine q_v hk (w_mv rfl) fun a hk => ?_
 refine q_call (caps := []) hk rfl rfl Tryz.func109 fo109 rfl rfl (rsplit_e (hs.ri 0 rfl) hf (by omega)) ?_
 rintro _ w ⟨a2, c3, rfl, hS⟩
 have hs := hs.call1 hS
 clear hS
 refine ⟨_, rfl, fun a hk => ?_⟩
 refine q_v hk (w_mv rfl) fun a hk => ?_
 refine q_v hk (w_ext rfl rfl) fun a hk => ?_
 refine q_v hk (w_ext rfl rfl) fun a hk => ?_
 refine q_v hk (w_as rfl) fun a hk => ?_
 refine q_v hk (w_as rfl) fun a hk => ?_
 refine c_end (x_t (wS (wR ?_)))
 refine q_v hk (w_mv rfl) fun a hk => ?_
 refine q_v hk (w_bld rfl fl154 zr154 rfl rfl) fun a hk => ?_
 refine q_box (vs := [.slice ra rn rc]) hk hs rfl rfl rfl rfl fun b4 w a hk hs => ?_
 refine q_v hk (w_as rfl) fun a hk => ?_
 refine c_end (x_t (wS (wR ?_)))
 refine q_v hk (w_as rfl) fun a hk => ?_
 refine c_end (x_t (wS (wS (wR ?_))))
 refine q_v hk (w_as rfl) fun a hk => ?_
 refine c_end (x_t ?_)
 refine wpIn_block ?_
 have hs := rowB_none (T := 47) (n := th) (pa := fun _ => none) (pc := fun _ => 0) (X := fun k j => zv ((fun _ _ => 0 : Nat → Nat → Zp s) k j)) hs
 have hs := hs.row0 72 1
 have hs : Sat no W [row 72 1 (.slice none 0 0) 0 (en plx (fun i => ((fun _ => none : Nat → Option Addr) i, th, (fun _ => 0 : Nat → Nat) i)) 0), rowB 47 th (fun _ => none) (fun _ => 0) (fun k j => zv ((fun _ _ => 0 : Nat → Nat → Zp s) k j)) 0, blk b4 [.slice ra rn rc] 154, row 47 4 (.slice a2 (cn ((ln : Nat) : Int)) c3) (cn ((ln : Nat) : Int)) (en vq (fun i => cv ln f i) (cn ((ln : Nat) : Int))), blk b1 [.int .i64 (fid s), .int .i64 ((th : Nat) : Int), .int .i64 N, .int .i64 ((ln : Nat) : Int)] 41] [lst 1 (.slice sa ln sc) ln (en bc (fun i => f i) ln), lst 1 (.slice ra rn rc) rn (en bc (fun i => fr i) rn)] w := hs
 refine c_loop (α := Nat) (fun k a w => ∃ (pa : Nat → Option Addr) (pc : Nat → Nat) (F : Nat → Nat → Zp s) (ap : Option Addr) (cp : Nat) (qa : Option Addr) (qn : Nat) (qc : Nat) (qf : Nat → Nat), k ≤ (cn ((ln : Nat) : Int)) ∧ HasR (lst 1 (.slice qa qn qc) qn (en bc qf qn)) [lst 1 (.slice sa ln sc) ln (en bc f ln), lst 1 (.slice ra rn rc) rn (en bc fr rn)] ∧ (∀ j, qf j < 256) ∧ 64 * ((th - 1) * ((cn ((ln : Nat) : Int)) - k)) ≤ qn ∧ qn ≤ rn ∧ (∀ i, i < k → F i 0 = zn s (cv ln f i)) ∧ Kn [] 67 [(13, .int .i64 ((k : Nat) : Int)), (12, .slice ap k cp), (11, .pointer (some ⟨b4, 0, none⟩)), (9, .slice a2 (cn ((ln : Nat) : Int)) c3), (7, .int .i64 0), (6, .slice none 0 0), (3, .pointer (some ⟨b1, 0, none⟩))] a ∧ Sat no W [row 72 1 (.slice ap k cp) k (en plx (fun i => (pa i, th, pc i)) k), rowB 47 th pa pc (fun k j => zv (F k j)) k, blk b4 [.slice qa qn qc] 154, row 47 4 (.slice a2 (cn ((ln : Nat) : Int)) c3) (cn ((ln : Nat) : Int)) (en vq (fun i => cv ln f i) (cn ((ln : Nat) : Int))), blk b1 [.int .i64 (fid s), .int .i64 ((th : Nat) : Int), .int .i64 N, .int .i64 ((ln : Nat) : Int)] 41] [lst 1 (.slice sa ln sc) ln (en bc (fun i => f i) ln), lst 1 (.slice ra rn rc) rn (en bc (fun i => fr i) rn)] w) (fun k => (cn ((ln : Nat) : Int)) - k) 0 ?_ ?_
 · exact ⟨_, _, _, _, _, _, _, _, _, (by omega), (HasR.nth 1 rfl), hfr, hrn, (Nat.le_refl _), (fun i hi => absurd hi (Nat.not_lt_zero i)), hk.k rfl (hk.k rfl (hk.k rfl (hk.k rfl (hk.k rfl (hk.k rfl (hk.k rfl hk.nil)))))), hs⟩
 rintro k a w ⟨pa, pc, F, ap, cp, qa, qn, qc, qf, hf0, hf1, hf2, hf3, hf4, hf5, hk, hs⟩
 refine wS (wS (wR ?_))
 refine q_v hk (w_mv rfl) fun a hk => ?_
 refine q_v hk (w_mv rfl) fun a hk => ?_
 refine q_v hk (w_len rfl Tryz.underlying72) fun a hk => ?_
 rcases Classical.em (((k : Nat) : Int) < (((cn ((ln : Nat) : Int)) : Nat) : Int)) with hc5 | hc5
 ·
  have hlt : k < (cn ((ln : Nat) : Int)) := by omega
  refine q_v hk (w_lt rfl rfl (decide_eq_true hc5)) fun a hk => ?_
  refine c_end (x_t ?_)
  refine c_T hk rfl ?_
  refine (wpIn_skip (x_t ?_))
  refine wS ?_
  refine wpIn_block ?_
  refine wS ?_
  have hL := okL.cons (hs.mi 4 rfl) okL.nil
  refine d_begin _ 13 (by kernel_rfl) rfl hs hL fun w hs hL => ?_
  refine d_w 0 1 hk hL rfl (fun w hL => w_mv rfl) fun a hk => ?_
  refine d_w 1 3 hk hL rfl (fun w hL => w_fa rfl fq41_0 ty3) fun a hk => ?_
  refine d_w 2 7 hk hL rfl (fun w hL => w_ld1 rfl ty3 (.blk (n := 1) (hL.at 0 rfl) rfl)) fun a hk => ?_
  refine d_w 4 23 hk hL rfl (fun w hL => w_fa rfl fq41_1 ty3) fun a hk => ?_
  refine d_w 5 55 hk hL rfl (fun w hL => w_ld1 rfl ty3 (.blk (n := 1) (hL.at 0 rfl) rfl)) fun a hk => ?_
  refine d_w 6 119 hk hL rfl (fun w hL => w_sub (r := ((th - 1 : Nat) : Int)) rfl rfl (by rw [wr64 (by omega) (by omega)]; omega)) fun a hk => ?_
  refine d_1 3 127 rfl (by kernel_rfl) fun K hK => ?_
  refine q_call (caps := []) hk rfl rfl Tryz.func28 fo28 rfl rfl (rmodulus_z (s := s) rfl _) ?_
  rintro _ w ⟨rfl, hb⟩
  have hs := hs.below hb
  refine ⟨_, rfl, fun a hk => ?_⟩
  have hL := okL.cons (hs.mi 4 rfl) okL.nil
  refine c_end (x_t (hK _ _ hL ?_))
  clear hK K
  refine d_1 7 255 rfl (by kernel_rfl) fun K hK => ?_
  have hs := hs.up2
  refine q_call (caps := []) hk rfl rfl Tryz.func110 fo110 rfl rfl (elements_m s b4 qn qc (th - 1) qa qf _ hs hf1 hf2 (by rw [rem_step hlt, Nat.mul_add] at hf3; omega) (by omega) (by omega)) ?_
  rintro _ w ⟨a1_7, c1_7b, a1_7c, c1_7d, qf2, E1_7e, rfl, hR2, hb2, hs⟩
  refine ⟨_, rfl, fun a hk => ?_⟩
  have hL := okL.cons (hs.mi 5 rfl) okL.nil
  refine c_end (x_t (hK _ _ hL ?_))
  clear hK K
  refine d_w 8 511 hk hL rfl (fun w hL => w_mv rfl) fun a hk => ?_
  refine d_w 9 1023 hk hL rfl (fun w hL => w_ext rfl rfl) fun a hk => ?_
  refine d_w 10 2047 hk hL rfl (fun w hL => w_ext rfl rfl) fun a hk => ?_
  refine d_w 11 4095 hk hL rfl (fun w hL => w_as rfl) fun a hk => ?_
  refine d_w 12 8191 hk hL rfl (fun w hL => w_as rfl) fun a hk => ?_
  refine d_end (by kernel_rfl) ?_
  refine (x_t ?_)
  refine wR ?_
  refine q_v hk (w_mv rfl) fun a hk => ?_
  refine q_v hk (w_mv rfl) fun a hk => ?_
  refine q_v hk (w_mv rfl) fun a hk => ?_
  refine q_v hk (w_iaL (k := k) rfl rfl Tryz.underlying72 ty47 (row_lst (hs.mi 4 rfl)) (by omega) (by omega)) fun a hk => ?_
  refine q_v hk (w_ldv (z := cv ln f k) rfl ty47 (lstq (k := k) (row_lst (hs.mi 4 rfl)) (by omega) (en_chunk vq_len (by omega)))) fun a hk => ?_
  refine q_bsl (els := [.tmp 60]) (cs := [.int .u64 ((dg 0 (cv ln f k) : Nat) : Int), .int .u64 ((dg 1 (cv ln f k) : Nat) : Int), .int .u64 ((dg 2 (cv ln f k) : Nat) : Int), .int .u64 ((dg 3 (cv ln f k) : Nat) : Int)]) hk hs rfl Tryz.underlying72 ty47 zr47 rfl rfl rfl rfl rfl rfl rfl fun b6 w a hk hs => ?_
  have hs := hs.toRow (xs := el vq ([cv ln f k])) (n := 1) (sz := 4) rfl (by rw [el_len vq_len]; rfl) (by omega)
  refine q_v hk (w_mv rfl) fun a hk => ?_
  refine q_appL (news := (en vq (fun i => zv (E1_7e i)) (th - 1))) (mm := (th - 1)) hk hs rfl rfl Tryz.underlying72 ty47 zr47 rfl rfl (row_lst (hs.mi 1 rfl))  (en_ones vq_ones) (by omega) (by omega) rfl rfl fun a7 c8 w a hk hs => ?_
  rw [show 1 + (th - 1) = th by omega] at hk hs
  have hcr := cons_row (z := zn s (cv ln f k)) (E := E1_7e) (m := th - 1) (cv_zv (s := s) (n := ln) (i := k) hf)
  rw [show 1 + (th - 1) = th by omega] at hcr
  have hs := hs.rw0 (congrArg (fun q => row 47 4 (.slice a7 th c8) th q) hcr)
  refine q_bsl (els := [.tmp 63]) (cs := [.slice a7 th c8]) hk hs rfl Tryz.underlying84 ty72 zr72 rfl rfl rfl rfl rfl rfl rfl fun b9 w a hk hs => ?_
  have hs := hs.up4
  refine q_app (news := [.slice a7 th c8]) (m := 1) hk hs rfl rfl Tryz.underlying84 ty72 zr72 rfl rfl (.blk (n := 1) (hs.mi 1 rfl) rfl) rfl rfl (by omega) (by omega) rfl rfl fun a10 c11 w a hk hs => ?_
  have hs := hs.up1
  have hs := hs.drop
  refine q_v hk (w_as rfl) fun a hk => ?_
  refine (c_end (x_b (x_t ?_)))
  refine wR ?_
  refine q_v hk (w_mv rfl) fun a hk => ?_
  refine q_v hk (w_add rfl rfl (wr64 (by omega) (by omega))) fun a hk => ?_
  refine q_v hk (w_as rfl) fun a hk => ?_
  refine c_end (x_t ?_)
  have hs := hs.rw0 (congrArg (fun q => row 72 1 (.slice a10 (k + 1) c11) (k + 1) q) (plx_row (n := th) (pa := pa) (pc := pc) (k := k) (a := a7) (c := c8)))
  have hs := hs.up4
  have hs := hs.up2
  have hs := rowB_add (pa := pa) (pc := pc) (k := k) (n := th) (T := 47) (X := fun k j => zv (F k j)) (Y := fun j => zv (consz (zn s (cv ln f k)) E1_7e j)) hs
  rw [updz_upg] at hs
  have hz0 : ∀ i, i < k + 1 → (upg F k (consz (zn s (cv ln f k)) E1_7e)) i 0 = zn s (cv ln f i) := upg_all (p := fun i (x : Nat → Zp s) => x 0 = zn s (cv ln f i)) hf5 rfl
  have hs := hs.up2
  have hs := hs.drop
  have hs := hs.up4
  have hs := hs.up4
  have hs := hs.up4
  have hs := hs.up3
  have hs := hs.up4
  exact ⟨k + 1, ⟨_, _, _, _, _, _, _, _, _, (by omega), hR2, hb2, (by rw [rem_step hlt, Nat.mul_add] at hf3; omega), (by omega), hz0, hk.k rfl (hk.k rfl (hk.k rfl (hk.k rfl (hk.k rfl (hk.k rfl (hk.k rfl hk.nil)))))), hs⟩, by omega⟩
 ·
  refine q_v hk (w_lt rfl rfl (decide_eq_false hc5)) fun a hk => ?_
  refine c_end (x_t ?_)
  refine c_F hk rfl ?_
  refine (wpIn_exit (x_te (x_te (x_be ?_))))
  refine (x_t ?_)
  refine wS (wR ?_)
  refine q_v hk (w_mv rfl) fun a hk => ?_
  refine q_v hk (w_as rfl) fun a hk => ?_
  refine q_v hk (w_as rfl) fun a hk => ?_
  refine c_end (x_t ?_)
  refine (wpIn_ret ?_)
  refine c_ret2 hk rfl rfl rfl ?_
  have hs := hs.up2
  have hs := hs.drop
  have hs := hs.up2
  have hs := hs.drop
  have hs := hs.up2
  have hs := hs.drop
  have hkq : k = (cn ((ln : Nat) : Int)) := by omega
  rw [hkq] at hs ⊢
  rw [hkq] at hf5
  exact ⟨_, _, _, _, _, hf5, rfl, hs.fin⟩
end Go.Proofs.YtdnkkbmpefhbjaaGreatDoor
namespace Go.Proofs.YtdnkkbmpefhbjaaGreatDoor
set_option linter.all false
open Go Go.RowKit Alg
/-- What a share of polynomials carries. -/
def dealX (s : Bool) (th : Nat) (F : Nat → Nat → Zp s) (j ch : Nat) : Nat := mq (rEv (F ch) (zn s (j + 1)) th)
/-- The shares of polynomials. -/
def dealS (s : Bool) (th ln q : Nat) (F : Nat → Nat → Zp s) (xa : Nat → Option Addr) (xc : Nat → Nat) (j : Nat) : Shr := ⟨fid s, (th : Int), ((j + 1 : Nat) : Int), (ln : Int), q, dealX s th F j, xa j, xc j⟩
section
variable {s : Bool} {th ln q k c m tS T : Nat} {F : Nat → Nat → Zp s} {a : Option Addr} {xa : Nat → Option Addr} {xc : Nat → Nat} {X : Nat → Nat → Nat} {F0 : Nat → Prop} {W w : World} {M R : List Res}
theorem rowB_addX (hs : Sat F0 W (row T 4 (.slice a q c) q (en vq (X k) q) :: rowB T q xa xc X k :: M) R w) : Sat F0 W (rowB T q (upg xa k a) (upg xc k c) X (k + 1) :: M) R w := by
  have h := rowB_add (Y := X k) hs
  have e : upg X k (X k) = X := by
    funext i
    unfold upg
    split
    · next h => rw [h]
    · rfl
  rw [e] at h
  exact h
theorem deal_row : en shc (dealS s th ln q F xa xc) k ++ [.int .i64 (fid s), .int .i64 (th : Int), .int .i64 ((k + 1 : Nat) : Int), .int .i64 (ln : Int), .slice a q c] = en shc (dealS s th ln q F (upg xa k a) (upg xc k c)) (k + 1) := by
  have e : en shc (dealS s th ln q F (upg xa k a) (upg xc k c)) k = en shc (dealS s th ln q F xa xc) k := en_congr fun i hi => by unfold dealS; rw [upg_ne (by omega), upg_ne (by omega)]
  have e2 : en shc (dealS s th ln q F (upg xa k a) (upg xc k c)) (k + 1) = en shc (dealS s th ln q F (upg xa k a) (upg xc k c)) k ++ shc (dealS s th ln q F (upg xa k a) (upg xc k c) k) := en_succ.symm
  rw [e2, e]
  congr 1
  unfold dealS shc
  rw [upg_eq, upg_eq]
end
theorem eval16_c (s : Bool) (th nn ln q qc : Nat) (qa : Option Addr) (pa : Nat → Option Addr) (pc : Nat → Nat) (F : Nat → Nat → Zp s) (W : World) (HP : LstAt W 1 (.slice qa q qc) q (en plx (fun i => (pa i, th, pc i)) q)) (HB : (rowB 47 th pa pc (fun k j => zv (F k j)) q).ok W) (hnn : nn ≤ 255) (hq9 : q ≤ 100000) (ht9 : th ≤ 255) : Calls Tryz.prog 65 [.agg #[.int .i64 (fid s), .int .i64 ((th : Nat) : Int), .int .i64 ((nn : Nat) : Int), .int .i64 ((ln : Nat) : Int)], .slice qa q qc].toArray W fun e w => ∃ xa xc a c, e = .returned (.slice a nn c) ∧ Sat no W [row 53 5 (.slice a nn c) nn (en shc (dealS s th ln q F xa xc) nn), rowB 56 q xa xc (dealX s th F) nn] [] w := by
 refine c_enter (args := [.agg #[.int .i64 (fid s), .int .i64 ((th : Nat) : Int), .int .i64 ((nn : Nat) : Int), .int .i64 ((ln : Nat) : Int)], .slice qa q qc]) Tryz.func65 rfl rfl rfl fun a hk => ?_
 have hs := Sat.start W [lst 1 (.slice qa q qc) q (en plx (fun i => (pa i, th, pc i)) q), rowB 47 th pa pc (fun k j => zv (F k j)) q] (okrc HP (okr1 HB))
 refine wS (wR ?_)
 refine q_box (vs := [.int .i64 (fid s), .int .i64 ((th : Nat) : Int), .int .i64 ((nn : Nat) : Int), .int .i64 ((ln : Nat) : Int)]) hk hs rfl rfl rfl rfl fun b1 w a hk hs => ?_
 refine q_v hk (w_as rfl) fun a hk => ?_
 refine c_end (x_t (wS (wR ?_)))
 refine q_v hk (w_as rfl) fun a hk => ?_
 refine c_end (x_t (wS (wS (wR ?_))))
 refine q_v hk (w_as rfl) fun a hk => ?_
 refine c_end (x_t ?_)
 refine wpIn_block ?_
 have hs := rowB_none (T := 56) (n := q) (pa := fun _ => none) (pc := fun _ => 0) (X := dealX s th F) hs
 have hs := hs.row0 53 5
 have hs : Sat no W [row 53 5 (.slice none 0 0) 0 (en shc (fun i => dealS s th ln q F (fun _ => none) (fun _ => 0) i) 0), rowB 56 q (fun _ => none) (fun _ => 0) (dealX s th F) 0, blk b1 [.int .i64 (fid s), .int .i64 ((th : Nat) : Int), .int .i64 ((nn : Nat) : Int), .int .i64 ((ln : Nat) : Int)] 41] [lst 1 (.slice qa q qc) q (en plx (fun i => (pa i, th, pc i)) q), rowB 47 th pa pc (fun k j => zv (F k j)) q] w := hs
 refine c_loop (α := Nat) (fun k a w => ∃ (xa : Nat → Option Addr) (xc : Nat → Nat) (ao : Option Addr) (co : Nat), k ≤ nn ∧ Kn [] 31 [(6, .int .i64 ((k + 1 : Nat) : Int)), (5, .slice ao k co), (4, .slice none 0 0), (2, .pointer (some ⟨b1, 0, none⟩)), (1, .slice qa q qc)] a ∧ Sat no W [row 53 5 (.slice ao k co) k (en shc (fun i => dealS s th ln q F xa xc i) k), rowB 56 q xa xc (dealX s th F) k, blk b1 [.int .i64 (fid s), .int .i64 ((th : Nat) : Int), .int .i64 ((nn : Nat) : Int), .int .i64 ((ln : Nat) : Int)] 41] [lst 1 (.slice qa q qc) q (en plx (fun i => (pa i, th, pc i)) q), rowB 47 th pa pc (fun k j => zv (F k j)) q] w) (fun k => nn - k) 0 ?_ ?_
 · exact ⟨_, _, _, _, (by omega), hk.k rfl (hk.k rfl (hk.k rfl (hk.k rfl (hk.k rfl hk.nil)))), hs⟩
 rintro k a w ⟨xa, xc, ao, co, hf0, hk, hs⟩
 refine wS (wS (wR ?_))
 refine q_v hk (w_mv rfl) fun a hk => ?_
 refine q_v hk (w_fa rfl fq41_2 ty3) fun a hk => ?_
 refine q_v hk (w_ld1 rfl ty3 (.blk (n := 1) (hs.mi 2 rfl) rfl)) fun a hk => ?_
 rcases Classical.em (((k + 1 : Nat) : Int) ≤ ((nn : Nat) : Int)) with hc2 | hc2
 ·
  have hlt : k < nn := by omega
  refine q_v hk (w_le rfl rfl (decide_eq_true hc2)) fun a hk => ?_
  refine c_end (x_t ?_)
  refine c_T hk rfl ?_
  refine (wpIn_skip (x_t ?_))
  refine wS ?_
  refine wpIn_block ?_
  have hL := okL.cons (hs.mi 2 rfl) okL.nil
  refine d_begin _ 18 (by kernel_rfl) rfl hs hL fun w hs hL => ?_
  refine d_w 0 1 hk hL rfl (fun w hL => w_mv rfl) fun a hk => ?_
  refine d_w 1 3 hk hL rfl (fun w hL => w_fa rfl fq41_0 ty3) fun a hk => ?_
  refine d_w 2 7 hk hL rfl (fun w hL => w_ld1 rfl ty3 (.blk (n := 1) (hL.at 0 rfl) rfl)) fun a hk => ?_
  refine d_w 3 15 hk hL rfl (fun w hL => w_fa rfl fq41_1 ty3) fun a hk => ?_
  refine d_w 4 31 hk hL rfl (fun w hL => w_ld1 rfl ty3 (.blk (n := 1) (hL.at 0 rfl) rfl)) fun a hk => ?_
  refine d_w 5 63 hk hL rfl (fun w hL => w_mv rfl) fun a hk => ?_
  refine d_w 6 127 hk hL rfl (fun w hL => w_fa rfl fq41_3 ty3) fun a hk => ?_
  refine d_w 7 255 hk hL rfl (fun w hL => w_ld1 rfl ty3 (.blk (n := 1) (hL.at 0 rfl) rfl)) fun a hk => ?_
  refine d_w 8 511 hk hL rfl (fun w hL => w_fa rfl fq41_0 ty3) fun a hk => ?_
  refine d_w 9 1023 hk hL rfl (fun w hL => w_ld1 rfl ty3 (.blk (n := 1) (hL.at 0 rfl) rfl)) fun a hk => ?_
  refine d_w 11 3071 hk hL rfl (fun w hL => w_mv rfl) fun a hk => ?_
  refine d_w 12 7167 hk hL rfl (fun w hL => w_mv rfl) fun a hk => ?_
  refine d_1 10 8191 rfl (by kernel_rfl) fun K hK => ?_
  refine q_call (caps := []) hk rfl rfl Tryz.func28 fo28 rfl rfl (rmodulus_z (s := s) rfl _) ?_
  rintro _ w ⟨rfl, hb⟩
  have hs := hs.below hb
  refine ⟨_, rfl, fun a hk => ?_⟩
  have hL := okL.cons (hs.mi 2 rfl) okL.nil
  refine c_end (x_t (hK _ _ hL ?_))
  clear hK K
  refine d_1 13 16383 rfl (by kernel_rfl) fun K hK => ?_
  refine q_call (caps := []) hk rfl rfl Tryz.func49 fo49 rfl rfl (rpay2_c s q qc th (k + 1) qa pa pc F _ (hs.ri 0 rfl) (hs.ri 1 rfl) (by omega) hq9 (by omega)) ?_
  rintro _ w ⟨a1_13, c1_13b, rfl, hS⟩
  have hs := hs.call1 hS
  clear hS
  refine ⟨_, rfl, fun a hk => ?_⟩
  have hL := okL.cons (hs.mi 3 rfl) okL.nil
  refine c_end (x_t (hK _ _ hL ?_))
  clear hK K
  refine d_w 14 32767 hk hL rfl (fun w hL => w_bld rfl fl53 zr53 rfl rfl) fun a hk => ?_
  refine d_1 15 65535 rfl (by kernel_rfl) fun K hK => ?_
  refine q_bsl (els := [.tmp 27]) (cs := [.int .i64 (fid s), .int .i64 ((th : Nat) : Int), .int .i64 ((k + 1 : Nat) : Int), .int .i64 ((ln : Nat) : Int), .slice a1_13 q c1_13b]) hk hs rfl Tryz.underlying22 ty53 zr53 rfl rfl rfl rfl rfl rfl rfl fun b1_15 w a hk hs => ?_
  have hL := okL.cons (hs.mi 4 rfl) okL.nil
  refine c_end (x_t (hK _ _ hL ?_))
  clear hK K
  refine d_1 16 131071 rfl (by kernel_rfl) fun K hK => ?_
  have hs := hs.up2
  refine q_app (news := [.int .i64 (fid s), .int .i64 ((th : Nat) : Int), .int .i64 ((k + 1 : Nat) : Int), .int .i64 ((ln : Nat) : Int), .slice a1_13 q c1_13b]) (m := 1) hk hs rfl rfl Tryz.underlying22 ty53 zr53 rfl rfl (.blk (n := 5) (hs.mi 1 rfl) rfl) rfl rfl (by omega) (by omega) rfl rfl fun a1_16 c1_16b w a hk hs => ?_
  have hs := hs.up1
  have hs := hs.drop
  have hL := okL.cons (hs.mi 3 rfl) okL.nil
  refine c_end (x_t (hK _ _ hL ?_))
  clear hK K
  refine d_w 17 262143 hk hL rfl (fun w hL => w_as rfl) fun a hk => ?_
  refine d_end (by kernel_rfl) ?_
  refine (x_b (x_t ?_))
  refine wR ?_
  refine q_v hk (w_mv rfl) fun a hk => ?_
  refine q_v hk (w_add rfl rfl (wr64 (by omega) (by omega))) fun a hk => ?_
  refine q_v hk (w_as rfl) fun a hk => ?_
  refine c_end (x_t ?_)
  have hs := hs.rw0 (congrArg (fun q => row 53 5 (.slice a1_16 (k + 1) c1_16b) (k + 1) q) (deal_row (s := s) (th := th) (ln := ln) (q := q) (F := F) (xa := xa) (xc := xc) (k := k) (a := a1_13) (c := c1_13b)))
  have hs := hs.up2
  have hs := hs.up2
  have hs := rowB_addX (X := dealX s th F) (k := k) hs
  have hs := hs.up2
  have hs := hs.up1
  have hs := hs.up2
  exact ⟨k + 1, ⟨_, _, _, _, (by omega), hk.k rfl (hk.k rfl (hk.k rfl (hk.k rfl (hk.k rfl hk.nil)))), hs⟩, by omega⟩
 ·
  refine q_v hk (w_le rfl rfl (decide_eq_false hc2)) fun a hk => ?_
  refine c_end (x_t ?_)
  refine c_F hk rfl ?_
  refine (wpIn_exit (x_te (x_te (x_be ?_))))
  refine (x_t ?_)
  refine wS (wR ?_)
  refine q_v hk (w_mv rfl) fun a hk => ?_
  refine q_v hk (w_as rfl) fun a hk => ?_
  refine c_end (x_t ?_)
  refine (wpIn_ret ?_)
  refine c_ret1 hk rfl rfl ?_
  have hs := hs.up2
  have hs := hs.drop
  have hkn : k = nn := by omega
  rw [hkn] at hs ⊢
  exact ⟨_, _, _, _, rfl, hs.fin⟩
end Go.Proofs.YtdnkkbmpefhbjaaGreatDoor
namespace Go.Proofs.YtdnkkbmpefhbjaaGreatDoor
set_option linter.all false
open Go Go.RowKit Alg
theorem poly16_b1 (F T N L : Int) (sn rn sc rc : Nat) (sa ra : Option Addr) (W : World) (h0 : prErr F T N L ≠ 0) : Calls Tryz.prog 64 [.agg #[.int .i64 F, .int .i64 T, .int .i64 N, .int .i64 L], .slice sa sn sc, .slice ra rn rc].toArray W fun e w => e = .returned (.tuple #[.slice none 0 0, .int .i64 (prErr F T N L)]) ∧ Below W.heap.size W w := by
 refine c_enter (args := [.agg #[.int .i64 F, .int .i64 T, .int .i64 N, .int .i64 L], .slice sa sn sc, .slice ra rn rc]) Tryz.func64 rfl rfl rfl fun a hk => ?_
 have hs := Sat.start W [] (fun _ h => by cases h)
 refine wS (wR ?_)
 refine q_box (vs := [.int .i64 F, .int .i64 T, .int .i64 N, .int .i64 L]) hk hs rfl rfl rfl rfl fun b1 w a hk hs => ?_
 refine q_v hk (w_as rfl) fun a hk => ?_
 refine q_v hk (w_as rfl) fun a hk => ?_
 refine c_end (x_t (wS (wR ?_)))
 refine q_v hk (w_ldA rfl ty41 (.blk (n := 4) (hs.mi 0 rfl) rfl) rfl) fun a hk => ?_
 refine q_call (caps := []) hk rfl rfl Tryz.func107 fo107 rfl rfl (refCkPar_c F T N L _) ?_
 rintro _ w ⟨rfl, hb⟩
 have hs := hs.below hb
 refine ⟨_, rfl, fun a hk => ?_⟩
 refine q_v hk (w_as rfl) fun a hk => ?_
 refine c_end (x_t (wS (wS (wR ?_))))
 refine q_v hk (w_mv rfl) fun a hk => ?_
 refine q_v hk (w_ne rfl rfl (decide_eq_true h0)) fun a hk => ?_
 refine c_end (x_t ?_)
 refine c_T hk rfl ?_
 refine wS (wR ?_)
 refine q_v hk (w_mv rfl) fun a hk => ?_
 refine q_v hk (w_as rfl) fun a hk => ?_
 refine q_v hk (w_as rfl) fun a hk => ?_
 refine c_end (x_t ?_)
 refine (wpIn_ret (x_tr ?_))
 refine c_ret2 hk rfl rfl rfl ?_
 have hs := hs.drop
 exact ⟨rfl, hs.toBelow⟩
theorem poly16_b2 (F T N L : Int) (sn rn sc rc : Nat) (sa ra : Option Addr) (W : World) (h0 : prErr F T N L = 0) (hl : ((sn : Nat) : Int) ≠ L) : Calls Tryz.prog 64 [.agg #[.int .i64 F, .int .i64 T, .int .i64 N, .int .i64 L], .slice sa sn sc, .slice ra rn rc].toArray W fun e w => e = .returned (.tuple #[.slice none 0 0, .int .i64 8]) ∧ Below W.heap.size W w := by
 refine c_enter (args := [.agg #[.int .i64 F, .int .i64 T, .int .i64 N, .int .i64 L], .slice sa sn sc, .slice ra rn rc]) Tryz.func64 rfl rfl rfl fun a hk => ?_
 have hs := Sat.start W [] (fun _ h => by cases h)
 refine wS (wR ?_)
 refine q_box (vs := [.int .i64 F, .int .i64 T, .int .i64 N, .int .i64 L]) hk hs rfl rfl rfl rfl fun b1 w a hk hs => ?_
 refine q_v hk (w_as rfl) fun a hk => ?_
 refine q_v hk (w_as rfl) fun a hk => ?_
 refine c_end (x_t (wS (wR ?_)))
 refine q_v hk (w_ldA rfl ty41 (.blk (n := 4) (hs.mi 0 rfl) rfl) rfl) fun a hk => ?_
 refine q_call (caps := []) hk rfl rfl Tryz.func107 fo107 rfl rfl (refCkPar_c F T N L _) ?_
 rintro _ w ⟨rfl, hb⟩
 have hs := hs.below hb
 refine ⟨_, rfl, fun a hk => ?_⟩
 refine q_v hk (w_as rfl) fun a hk => ?_
 refine c_end (x_t (wS (wS (wR ?_))))
 refine q_v hk (w_mv rfl) fun a hk => ?_
 refine q_v hk (w_ne rfl rfl (decide_eq_false (fun h => h h0))) fun a hk => ?_
 refine c_end (x_t ?_)
 refine c_F hk rfl ?_
 refine (wpIn_skip (x_t ?_))
 refine wS (wS (wR ?_))
 refine q_v hk (w_mv rfl) fun a hk => ?_
 refine q_v hk (w_len rfl Tryz.underlying42) fun a hk => ?_
 refine q_v hk (w_fa rfl fq41_3 ty3) fun a hk => ?_
 refine q_v hk (w_ld1 rfl ty3 (.blk (n := 1) (hs.mi 0 rfl) rfl)) fun a hk => ?_
 refine q_v hk (w_ne rfl rfl (decide_eq_true hl)) fun a hk => ?_
 refine c_end (x_t ?_)
 refine c_T hk rfl ?_
 refine wS (wR ?_)
 refine q_v hk (w_as rfl) fun a hk => ?_
 refine q_v hk (w_as rfl) fun a hk => ?_
 refine c_end (x_t ?_)
 refine (wpIn_ret (x_tr ?_))
 refine c_ret2 hk rfl rfl rfl ?_
 have hs := hs.drop
 exact ⟨rfl, hs.toBelow⟩
theorem deal_b1 (F T N L : Int) (sn rn sc rc : Nat) (sa ra : Option Addr) (W : World) (h0 : prErr F T N L ≠ 0) : Calls Tryz.prog 27 [.agg #[.int .i64 F, .int .i64 T, .int .i64 N, .int .i64 L], .slice sa sn sc, .slice ra rn rc].toArray W fun e w => e = .returned (.tuple #[.slice none 0 0, .int .i64 (prErr F T N L)]) ∧ Below W.heap.size W w := by
 refine c_enter (args := [.agg #[.int .i64 F, .int .i64 T, .int .i64 N, .int .i64 L], .slice sa sn sc, .slice ra rn rc]) Tryz.func27 rfl rfl rfl fun a hk => ?_
 have hs := Sat.start W [] (fun _ h => by cases h)
 refine wS (wR ?_)
 refine q_box (vs := [.int .i64 F, .int .i64 T, .int .i64 N, .int .i64 L]) hk hs rfl rfl rfl rfl fun b1 w a hk hs => ?_
 refine q_v hk (w_as rfl) fun a hk => ?_
 refine q_v hk (w_as rfl) fun a hk => ?_
 refine c_end (x_t (wS (wR ?_)))
 refine q_v hk (w_ldA rfl ty41 (.blk (n := 4) (hs.mi 0 rfl) rfl) rfl) fun a hk => ?_
 refine q_v hk (w_mv rfl) fun a hk => ?_
 refine q_v hk (w_mv rfl) fun a hk => ?_
 refine q_call (caps := []) hk rfl rfl Tryz.func64 fo64 rfl rfl (poly16_b1 F T N L sn rn sc rc sa ra _ h0) ?_
 rintro _ w ⟨rfl, hb⟩
 have hs := hs.below hb
 refine ⟨_, rfl, fun a hk => ?_⟩
 refine q_v hk (w_mv rfl) fun a hk => ?_
 refine q_v hk (w_ext rfl rfl) fun a hk => ?_
 refine q_v hk (w_ext rfl rfl) fun a hk => ?_
 refine q_v hk (w_as rfl) fun a hk => ?_
 refine q_v hk (w_as rfl) fun a hk => ?_
 refine c_end (x_t (wS (wS (wR ?_))))
 refine q_v hk (w_mv rfl) fun a hk => ?_
 refine q_v hk (w_ne rfl rfl (decide_eq_true h0)) fun a hk => ?_
 refine c_end (x_t ?_)
 refine c_T hk rfl ?_
 refine wS (wR ?_)
 refine q_v hk (w_mv rfl) fun a hk => ?_
 refine q_v hk (w_as rfl) fun a hk => ?_
 refine q_v hk (w_as rfl) fun a hk => ?_
 refine c_end (x_t ?_)
 refine (wpIn_ret (x_tr ?_))
 refine c_ret2 hk rfl rfl rfl ?_
 have hs := hs.drop
 exact ⟨rfl, hs.toBelow⟩
theorem deal_b2 (F T N L : Int) (sn rn sc rc : Nat) (sa ra : Option Addr) (W : World) (h0 : prErr F T N L = 0) (hl : ((sn : Nat) : Int) ≠ L) : Calls Tryz.prog 27 [.agg #[.int .i64 F, .int .i64 T, .int .i64 N, .int .i64 L], .slice sa sn sc, .slice ra rn rc].toArray W fun e w => e = .returned (.tuple #[.slice none 0 0, .int .i64 8]) ∧ Below W.heap.size W w := by
 refine c_enter (args := [.agg #[.int .i64 F, .int .i64 T, .int .i64 N, .int .i64 L], .slice sa sn sc, .slice ra rn rc]) Tryz.func27 rfl rfl rfl fun a hk => ?_
 have hs := Sat.start W [] (fun _ h => by cases h)
 refine wS (wR ?_)
 refine q_box (vs := [.int .i64 F, .int .i64 T, .int .i64 N, .int .i64 L]) hk hs rfl rfl rfl rfl fun b1 w a hk hs => ?_
 refine q_v hk (w_as rfl) fun a hk => ?_
 refine q_v hk (w_as rfl) fun a hk => ?_
 refine c_end (x_t (wS (wR ?_)))
 refine q_v hk (w_ldA rfl ty41 (.blk (n := 4) (hs.mi 0 rfl) rfl) rfl) fun a hk => ?_
 refine q_v hk (w_mv rfl) fun a hk => ?_
 refine q_v hk (w_mv rfl) fun a hk => ?_
 refine q_call (caps := []) hk rfl rfl Tryz.func64 fo64 rfl rfl (poly16_b2 F T N L sn rn sc rc sa ra _ h0 hl) ?_
 rintro _ w ⟨rfl, hb⟩
 have hs := hs.below hb
 refine ⟨_, rfl, fun a hk => ?_⟩
 refine q_v hk (w_mv rfl) fun a hk => ?_
 refine q_v hk (w_ext rfl rfl) fun a hk => ?_
 refine q_v hk (w_ext rfl rfl) fun a hk => ?_
 refine q_v hk (w_as rfl) fun a hk => ?_
 refine q_v hk (w_as rfl) fun a hk => ?_
 refine c_end (x_t (wS (wS (wR ?_))))
 refine q_v hk (w_mv rfl) fun a hk => ?_
 refine q_v hk (w_ne rfl rfl (decide_eq_true (by decide))) fun a hk => ?_
 refine c_end (x_t ?_)
 refine c_T hk rfl ?_
 refine wS (wR ?_)
 refine q_v hk (w_mv rfl) fun a hk => ?_
 refine q_v hk (w_as rfl) fun a hk => ?_
 refine q_v hk (w_as rfl) fun a hk => ?_
 refine c_end (x_t ?_)
 refine (wpIn_ret (x_tr ?_))
 refine c_ret2 hk rfl rfl rfl ?_
 have hs := hs.drop
 exact ⟨rfl, hs.toBelow⟩
theorem poly16_b3 (s : Bool) (th nn ln rn sc rc : Nat) (sa ra : Option Addr) (qq : Nat) (W : World) (h0 : prErr (fid s) ((th : Nat) : Int) ((nn : Nat) : Int) ((ln : Nat) : Int) = 0) (hqq : 64 * (th - 1) * (cn ((ln : Nat) : Int)) = qq) (hr : rn < qq) (hq9 : qq ≤ 100000000) : Calls Tryz.prog 64 [.agg #[.int .i64 (fid s), .int .i64 ((th : Nat) : Int), .int .i64 ((nn : Nat) : Int), .int .i64 ((ln : Nat) : Int)], .slice sa ln sc, .slice ra rn rc].toArray W fun e w => e = .returned (.tuple #[.slice none 0 0, .int .i64 7]) ∧ Below W.heap.size W w := by
 refine c_enter (args := [.agg #[.int .i64 (fid s), .int .i64 ((th : Nat) : Int), .int .i64 ((nn : Nat) : Int), .int .i64 ((ln : Nat) : Int)], .slice sa ln sc, .slice ra rn rc]) Tryz.func64 rfl rfl rfl fun a hk => ?_
 have hs := Sat.start W [] (fun _ h => by cases h)
 refine wS (wR ?_)
 refine q_box (vs := [.int .i64 (fid s), .int .i64 ((th : Nat) : Int), .int .i64 ((nn : Nat) : Int), .int .i64 ((ln : Nat) : Int)]) hk hs rfl rfl rfl rfl fun b1 w a hk hs => ?_
 refine q_v hk (w_as rfl) fun a hk => ?_
 refine q_v hk (w_as rfl) fun a hk => ?_
 refine c_end (x_t (wS (wR ?_)))
 refine q_v hk (w_ldA rfl ty41 (.blk (n := 4) (hs.mi 0 rfl) rfl) rfl) fun a hk => ?_
 refine q_call (caps := []) hk rfl rfl Tryz.func107 fo107 rfl rfl (refCkPar_c (fid s) ((th : Nat) : Int) ((nn : Nat) : Int) ((ln : Nat) : Int) _) ?_
 rintro _ w ⟨rfl, hb⟩
 have hs := hs.below hb
 refine ⟨_, rfl, fun a hk => ?_⟩
 refine q_v hk (w_as rfl) fun a hk => ?_
 refine c_end (x_t (wS (wS (wR ?_))))
 refine q_v hk (w_mv rfl) fun a hk => ?_
 refine q_v hk (w_ne rfl rfl (decide_eq_false (fun h => h h0))) fun a hk => ?_
 refine c_end (x_t ?_)
 refine c_F hk rfl ?_
 refine (wpIn_skip (x_t ?_))
 refine wS (wS (wR ?_))
 refine q_v hk (w_mv rfl) fun a hk => ?_
 refine q_v hk (w_len rfl Tryz.underlying42) fun a hk => ?_
 refine q_v hk (w_fa rfl fq41_3 ty3) fun a hk => ?_
 refine q_v hk (w_ld1 rfl ty3 (.blk (n := 1) (hs.mi 0 rfl) rfl)) fun a hk => ?_
 refine q_v hk (w_ne rfl rfl (decide_eq_false (by omega))) fun a hk => ?_
 refine c_end (x_t ?_)
 refine c_F hk rfl ?_
 refine (wpIn_skip (x_t ?_))
 refine wS (wS (wR ?_))
 refine q_v hk (w_mv rfl) fun a hk => ?_
 refine q_v hk (w_len rfl Tryz.underlying42) fun a hk => ?_
 refine q_v hk (w_ldA rfl ty41 (.blk (n := 4) (hs.mi 0 rfl) rfl) rfl) fun a hk => ?_
 refine q_call (caps := []) hk rfl rfl Tryz.func108 fo108 rfl rfl (rrnd_c s th ln ((nn : Nat) : Int) _ h0) ?_
 rintro _ w ⟨rfl, hb⟩
 rw [hqq]
 have hs := hs.below hb
 refine ⟨_, rfl, fun a hk => ?_⟩
 refine q_v hk (w_lt rfl rfl (decide_eq_true (by omega))) fun a hk => ?_
 refine c_end (x_t ?_)
 refine c_T hk rfl ?_
 refine wS (wR ?_)
 refine q_v hk (w_as rfl) fun a hk => ?_
 refine q_v hk (w_as rfl) fun a hk => ?_
 refine c_end (x_t ?_)
 refine (wpIn_ret (x_tr ?_))
 refine c_ret2 hk rfl rfl rfl ?_
 have hs := hs.drop
 exact ⟨rfl, hs.toBelow⟩
theorem deal_b3 (s : Bool) (th nn ln rn sc rc : Nat) (sa ra : Option Addr) (qq : Nat) (W : World) (h0 : prErr (fid s) ((th : Nat) : Int) ((nn : Nat) : Int) ((ln : Nat) : Int) = 0) (hqq : 64 * (th - 1) * (cn ((ln : Nat) : Int)) = qq) (hr : rn < qq) (hq9 : qq ≤ 100000000) : Calls Tryz.prog 27 [.agg #[.int .i64 (fid s), .int .i64 ((th : Nat) : Int), .int .i64 ((nn : Nat) : Int), .int .i64 ((ln : Nat) : Int)], .slice sa ln sc, .slice ra rn rc].toArray W fun e w => e = .returned (.tuple #[.slice none 0 0, .int .i64 7]) ∧ Below W.heap.size W w := by
 refine c_enter (args := [.agg #[.int .i64 (fid s), .int .i64 ((th : Nat) : Int), .int .i64 ((nn : Nat) : Int), .int .i64 ((ln : Nat) : Int)], .slice sa ln sc, .slice ra rn rc]) Tryz.func27 rfl rfl rfl fun a hk => ?_
 have hs := Sat.start W [] (fun _ h => by cases h)
 refine wS (wR ?_)
 refine q_box (vs := [.int .i64 (fid s), .int .i64 ((th : Nat) : Int), .int .i64 ((nn : Nat) : Int), .int .i64 ((ln : Nat) : Int)]) hk hs rfl rfl rfl rfl fun b1 w a hk hs => ?_
 refine q_v hk (w_as rfl) fun a hk => ?_
 refine q_v hk (w_as rfl) fun a hk => ?_
 refine c_end (x_t (wS (wR ?_)))
 refine q_v hk (w_ldA rfl ty41 (.blk (n := 4) (hs.mi 0 rfl) rfl) rfl) fun a hk => ?_
 refine q_v hk (w_mv rfl) fun a hk => ?_
 refine q_v hk (w_mv rfl) fun a hk => ?_
 refine q_call (caps := []) hk rfl rfl Tryz.func64 fo64 rfl rfl (poly16_b3 s th nn ln rn sc rc sa ra qq _ h0 hqq hr hq9) ?_
 rintro _ w ⟨rfl, hb⟩
 have hs := hs.below hb
 refine ⟨_, rfl, fun a hk => ?_⟩
 refine q_v hk (w_mv rfl) fun a hk => ?_
 refine q_v hk (w_ext rfl rfl) fun a hk => ?_
 refine q_v hk (w_ext rfl rfl) fun a hk => ?_
 refine q_v hk (w_as rfl) fun a hk => ?_
 refine q_v hk (w_as rfl) fun a hk => ?_
 refine c_end (x_t (wS (wS (wR ?_))))
 refine q_v hk (w_mv rfl) fun a hk => ?_
 refine q_v hk (w_ne rfl rfl (decide_eq_true (by decide))) fun a hk => ?_
 refine c_end (x_t ?_)
 refine c_T hk rfl ?_
 refine wS (wR ?_)
 refine q_v hk (w_mv rfl) fun a hk => ?_
 refine q_v hk (w_as rfl) fun a hk => ?_
 refine q_v hk (w_as rfl) fun a hk => ?_
 refine c_end (x_t ?_)
 refine (wpIn_ret (x_tr ?_))
 refine c_ret2 hk rfl rfl rfl ?_
 have hs := hs.drop
 exact ⟨rfl, hs.toBelow⟩
theorem deal_c (s : Bool) (th nn ln rn sc rc : Nat) (sa ra : Option Addr) (f fr : Nat → Nat) (W : World) (h0 : prErr (fid s) ((th : Nat) : Int) ((nn : Nat) : Int) ((ln : Nat) : Int) = 0) (HS : LstAt W 1 (.slice sa ln sc) ln (en bc f ln)) (hf : ∀ j, f j < 256) (HR : LstAt W 1 (.slice ra rn rc) rn (en bc fr rn)) (hfr : ∀ j, fr j < 256) (hr : 64 * (th - 1) * (cn ((ln : Nat) : Int)) ≤ rn) (hr9 : rn ≤ 100000000) : Calls Tryz.prog 27 [.agg #[.int .i64 (fid s), .int .i64 ((th : Nat) : Int), .int .i64 ((nn : Nat) : Int), .int .i64 ((ln : Nat) : Int)], .slice sa ln sc, .slice ra rn rc].toArray W fun e w => ∃ F : Nat → Nat → Zp s, ∃ xa xc a c, (∀ i, i < (cn ((ln : Nat) : Int)) → F i 0 = zn s (cv ln f i)) ∧ e = .returned (.tuple #[.slice a nn c, .int .i64 0]) ∧ Sat no W [row 53 5 (.slice a nn c) nn (en shc (dealS s th ln (cn ((ln : Nat) : Int)) F xa xc) nn), rowB 56 (cn ((ln : Nat) : Int)) xa xc (dealX s th F) nn] [] w := by
 obtain ⟨_, h1, h2, h3, h4, h5, h6⟩ := prErr_0 h0
 have hcn := cn_bound ln
 refine c_enter (args := [.agg #[.int .i64 (fid s), .int .i64 ((th : Nat) : Int), .int .i64 ((nn : Nat) : Int), .int .i64 ((ln : Nat) : Int)], .slice sa ln sc, .slice ra rn rc]) Tryz.func27 rfl rfl rfl fun a hk => ?_
 have hs := Sat.start W [lst 1 (.slice sa ln sc) ln (en bc (fun i => f i) ln), lst 1 (.slice ra rn rc) rn (en bc (fun i => fr i) rn)] (okrc HS (okr1 HR))
 refine wS (wR ?_)
 refine q_box (vs := [.int .i64 (fid s), .int .i64 ((th : Nat) : Int), .int .i64 ((nn : Nat) : Int), .int .i64 ((ln : Nat) : Int)]) hk hs rfl rfl rfl rfl fun b1 w a hk hs => ?_
 refine q_v hk (w_as rfl) fun a hk => ?_
 refine q_v hk (w_as rfl) fun a hk => ?_
 refine c_end (x_t (wS (wR ?_)))
 refine q_v hk (w_ldA rfl ty41 (.blk (n := 4) (hs.mi 0 rfl) rfl) rfl) fun a hk => ?_
 refine q_v hk (w_mv rfl) fun a hk => ?_
 refine q_v hk (w_mv rfl) fun a hk => ?_
 refine q_call (caps := []) hk rfl rfl Tryz.func64 fo64 rfl rfl (poly16_c s th ln rn sc rc ((nn : Nat) : Int) sa ra f fr _ h0 (hs.ri 0 rfl) hf (hs.ri 1 rfl) hfr hr hr9) ?_
 rintro _ w ⟨f2, f3, F4, a5, c6, hF0, rfl, hS⟩
 have hs := hs.call2 hS
 clear hS
 refine ⟨_, rfl, fun a hk => ?_⟩
 refine q_v hk (w_mv rfl) fun a hk => ?_
 refine q_v hk (w_ext rfl rfl) fun a hk => ?_
 refine q_v hk (w_ext rfl rfl) fun a hk => ?_
 refine q_v hk (w_as rfl) fun a hk => ?_
 refine q_v hk (w_as rfl) fun a hk => ?_
 refine c_end (x_t (wS (wS (wR ?_))))
 refine q_v hk (w_mv rfl) fun a hk => ?_
 refine q_v hk (w_ne rfl rfl (decide_eq_false (by decide))) fun a hk => ?_
 refine c_end (x_t ?_)
 refine c_F hk rfl ?_
 refine (wpIn_skip (x_t ?_))
 refine wS (wR ?_)
 refine q_v hk (w_ldA rfl ty41 (.blk (n := 4) (hs.mi 2 rfl) rfl) rfl) fun a hk => ?_
 refine q_v hk (w_mv rfl) fun a hk => ?_
 refine q_call (caps := []) hk rfl rfl Tryz.func65 fo65 rfl rfl (eval16_c s th nn ln (cn ((ln : Nat) : Int)) c6 a5 f2 f3 F4 _ (row_lst (hs.mi 0 rfl)) (hs.mi 1 rfl) (by omega) (by omega) (by omega)) ?_
 rintro _ w ⟨f7, f8, a9, c10, rfl, hS⟩
 have hs := hs.call2 hS
 clear hS
 refine ⟨_, rfl, fun a hk => ?_⟩
 refine q_v hk (w_as rfl) fun a hk => ?_
 refine q_v hk (w_as rfl) fun a hk => ?_
 refine c_end (x_t ?_)
 refine (wpIn_ret ?_)
 refine c_ret2 hk rfl rfl rfl ?_
 have hs := hs.up2
 have hs := hs.drop
 have hs := hs.up2
 have hs := hs.drop
 have hs := hs.up2
 have hs := hs.drop
 exact ⟨_, _, _, _, _, hF0, rfl, hs.fin⟩
end Go.Proofs.YtdnkkbmpefhbjaaGreatDoor
namespace Go.Proofs.YtdnkkbmpefhbjaaGreatDoor
set_option linter.all false
open Go Go.RowKit Alg
section
variable {la : Option Addr} {m lc : Nat} {S : Nat → Shr} {w : World}
theorem sat_in (HS : (shareR la m lc S).ok w) (HL : Laid w) : Sat no w [] [shareR la m lc S, laidR] w := Sat.start w _ (fun r hr => by
  simp only [List.mem_cons, List.not_mem_nil, or_false] at hr
  rcases hr with rfl | rfl
  · exact HS
  · exact HL)
theorem hr0 : HasR (shareR la m lc S) [shareR la m lc S, laidR] := .head
theorem hr1 : HasR laidR [shareR la m lc S, laidR] := HasR.nth 1 rfl
theorem sat_out {M : List Res} {w' : World} (hs : Sat no w (nores :: M) [shareR la m lc S, laidR] w') : Sat no w M [] w' := hs.drop.fin
variable (HS : (shareR la m lc S).ok w) (HL : Laid w) (HO : ShOk S m)
include HS HL HO
variable {s : Bool} (g : Good s S m) (hz : csErr S m = 0) (hm : m ≤ 255) (hn9 : (S 0).n ≤ 7)
include g hz hm hn9
end
end Go.Proofs.YtdnkkbmpefhbjaaGreatDoor
namespace Go.Proofs.YtdnkkbmpefhbjaaGreatDoor
set_option linter.all false
open Go Go.RowKit Alg
theorem zn_lit {v : Nat} (hv : v < 1000) : zv (zn false v) = v := Nat.mod_eq_of_lt (Nat.lt_trans hv (pr_1000 false))
theorem rform_s (v : Nat) (hv : v < 1000) (w : World) : Calls Tryz.prog 43 #[vec (pr false), vec v] w fun e w' => e = .returned (vec (mq (zn false v))) ∧ Below w.heap.size w w' := by
  exact rform_z w (zn_lit hv).symm
def pk3 {α : Type} (y0 y1 y2 : α) (i : Nat) : α := if i = 0 then y0 else if i = 1 then y1 else y2
/-- Three shares of the examples. -/
def sh3 (y0 y1 y2 a0 a1 a2 : Nat) (i : Nat) : Shr := ⟨1, 2, (i : Int) + 1, 1, 1, fun _ => mq (zn false (pk3 y0 y1 y2 i)), some ⟨pk3 a0 a1 a2 i, 0, none⟩, 1⟩
section
variable {y0 y1 y2 a0 a1 a2 : Nat}
theorem sh3_clz (ch i : Nat) : clz false (sh3 y0 y1 y2 a0 a1 a2) ch i = zn false (pk3 y0 y1 y2 i) := mz_of _
theorem sh3_pt (i : Nat) : pt false (vI (sh3 y0 y1 y2 a0 a1 a2)) i = zn false (i + 1) := rfl
/-- The polynomial 5 + 3 X. -/
def p53 (k : Nat) : Zp false := if k = 0 then zn false 5 else zn false 3
theorem p53_0 : Sg p53 (pw (zn false 1)) 2 = zn false 8 := by decide +kernel
theorem p53_1 : Sg p53 (pw (zn false 2)) 2 = zn false 11 := by decide +kernel
theorem p53_2 : Sg p53 (pw (zn false 3)) 2 = zn false 14 := by decide +kernel
end
end Go.Proofs.YtdnkkbmpefhbjaaGreatDoor
namespace Go.Proofs.YtdnkkbmpefhbjaaGreatDoor
set_option linter.all false
open Go Go.RowKit Alg
end Go.Proofs.YtdnkkbmpefhbjaaGreatDoor
namespace Go.Proofs.YtdnkkbmpefhbjaaGreatDoor
set_option linter.all false
open Go Go.RowKit Alg
section
variable {la : Option Addr} {m lc : Nat} {S : Nat → Shr} {w : World} (HS : (shareR la m lc S).ok w) (HL : Laid w) (HO : ShOk S m)
include HS HL HO
variable {s : Bool} (g : Good s S m) (hz : csErr S m = 0) (hm : m ≤ 255)
include g hz hm
variable (hn9 : (S 0).n ≤ 7)
include hn9
theorem valuesN : Calls Tryz.prog 41 #[.pointer none, .slice la m lc] w fun e w' => ∃ a c, e = .returned (.tuple #[.slice a (S 0).n c, .int .i64 0]) ∧ Sat no w [row 56 4 (.slice a (S 0).n c) (S 0).n (en vq (fun i => mq (valZ s S (thN S) i)) (S 0).n)] [] w' :=
  (values_m s m lc la S none [] nores w (sat_in HS HL).none hr0 hr1 HO g hz hm hn9 rfl (by decide)).mono fun _ _ h => by
    obtain ⟨r, a, c, h1, h2, h3⟩ := h
    obtain rfl := h2
    exact ⟨a, c, h1, sat_out h3⟩
theorem combN : Calls Tryz.prog 44 #[.pointer none, .slice la m lc] w fun e w' => ∃ a k c, e = .returned (.tuple #[.slice a k c, .int .i64 (jErr (S 0).n (S 0).L (valN s S (thN S)))]) ∧ Sat no w [row 5 1 (.slice a k c) k (el bc (jBytes (S 0).n (S 0).L (valN s S (thN S))))] [] w' :=
  (combine_m s m lc la S none [] nores w (sat_in HS HL).none hr0 hr1 HO g hz hm hn9 rfl (by decide)).mono fun _ _ h => by
    obtain ⟨r, a, k, c, h1, h2, h3⟩ := h
    obtain rfl := h2
    exact ⟨a, k, c, h1, sat_out h3⟩
theorem atN (ix : Nat) (hi1 : 1 ≤ ix) (hi2 : ix ≤ 255) : Calls Tryz.prog 47 #[.pointer none, .slice la m lc, .int .i64 ((ix : Nat) : Int)] w fun e w' => ∃ a c, e = .returned (.tuple #[.agg #[.int .i64 (S 0).F, .int .i64 (S 0).T, .int .i64 ((ix : Nat) : Int), .int .i64 (S 0).L, .slice a (S 0).n c], .int .i64 0]) ∧ Sat no w [row 56 4 (.slice a (S 0).n c) (S 0).n (en vq (fun i => mq (atZ s S (thN S) (zn s ix) i)) (S 0).n)] [] w' :=
  (at_m s m lc la S none [] nores ix w (sat_in HS HL).none hr0 hr1 HO g hz hm hn9 rfl (by decide) hi1 hi2).mono fun _ _ h => by
    obtain ⟨r, a, c, h1, h2, h3⟩ := h
    obtain rfl := h2
    exact ⟨a, c, h1, sat_out h3⟩
end
/-! A share whose cells lie in a block of their own. -/
/-! The examples. -/
section
variable {y0 y1 y2 a0 a1 a2 : Nat}
theorem sh2_good : Good false (sh3 y0 y1 y2 a0 a1 a2) 2 where
  m0 := by decide
  F _ _ := rfl
  T _ _ := rfl
  Lq _ _ := rfl
  n _ _ := rfl
  idx i hi := by show 1 ≤ (i : Int) + 1 ∧ (i : Int) + 1 ≤ 255; omega
  app i k h _ := by show (i : Int) + 1 ≠ (k : Int) + 1; omega
  X _ _ _ _ := mq_lt _
  t1 := by show (1 : Int) ≤ 2; decide
  tm := by show (2 : Int) ≤ 2; decide
  l0 := by show (0 : Int) ≤ 1; decide
  l1 := by show (1 : Int) ≤ 65535; decide
  cn := by show 1 = cn 1; decide
theorem sh2_err : csErr (sh3 y0 y1 y2 a0 a1 a2) 2 = 0 := sh2_good.err (by show (2 : Int) ≤ 255; decide)
theorem sh2_ok : ShOk (sh3 y0 y1 y2 a0 a1 a2) 2 := ⟨by decide, fun _ _ => by show (1 : Nat) ≤ 100000000; decide, fun _ _ _ _ => mq_lt4 _⟩
theorem sh2_itp {k : Nat} (hk : k < 2) : itp (pt false (vI (sh3 8 11 y2 a0 a1 a2))) (clz false (sh3 8 11 y2 a0 a1 a2) 0) 2 2 k = p53 k := itp_of sh2_good.fap (fun j hj => by
  rw [sh3_clz, sh3_pt]
  match j, hj with
  | 0, _ => exact p53_0
  | 1, _ => exact p53_1) hk
theorem sh2_val : valZ false (sh3 8 11 y2 a0 a1 a2) 2 0 = zn false 5 := by
  unfold valZ
  rw [dot_itp 2 (by decide), sh2_itp (by decide)]
  rfl
theorem sh2_at : atZ false (sh3 8 11 y2 a0 a1 a2) 2 (zn false 3) 0 = zn false 14 := by
  unfold atZ
  rw [Hn_ev, Sg_congr (d := p53) (fun k hk => sh2_itp hk)]
  exact p53_2
theorem valN_zv {s : Bool} {S : Nat → Shr} {m i : Nat} : valN s S m i = zv (valZ s S m i) := rfl
theorem zn_lit5 : zv (zn false 5) = 5 := zn_lit (by decide)
theorem sh2_vN : valN false (sh3 8 11 y2 a0 a1 a2) 2 0 = 5 := by
  rw [valN_zv, sh2_val]
  exact zn_lit5
theorem jErr_5 {v : Nat → Nat} (h : v 0 = 5) : jErr 1 1 v = 0 := by
  have ok : okC (Int.toNat 1) v (List.range 1) := fun i hi => by
    obtain rfl : i = 0 := by have := List.mem_range.1 hi; omega
    rw [h]
    exact fun j h1 _ => by unfold byt; rw [Nat.div_eq_of_lt (Nat.lt_of_lt_of_le (by decide : 5 < 256 ^ 1) (Nat.pow_le_pow_right (by decide) h1))]
  unfold jErr
  rw [if_pos (by decide), if_pos (by decide), if_pos ok]
theorem jBytes_5 {v : Nat → Nat} (h : v 0 = 5) : jBytes 1 1 v = [5] := by
  unfold jBytes
  rw [if_pos (jErr_5 h)]
  show (List.range 1).flatMap (fun i => (List.range (cz 1 i)).map (byt (v i))) = [5]
  show (List.range (cz 1 0)).map (byt (v 0)) ++ [] = [5]
  rw [h]
  decide
end
end Go.Proofs.YtdnkkbmpefhbjaaGreatDoor
namespace Go.Proofs.YtdnkkbmpefhbjaaGreatDoor
set_option linter.all false
open Go Go.RowKit Alg
/-- The shares lie on the polynomials F. -/
def OnP (s : Bool) (S : Nat → Shr) (m th : Nat) (F : Nat → Nat → Zp s) : Prop := ∀ j, j < m → ∀ ch, ch < (S 0).n → clz s S ch j = Sg (F ch) (pw (pt s (vI S) j)) th
section
variable {s : Bool} {S : Nat → Shr} {m m' th : Nat} {F : Nat → Nat → Zp s} {σ : Nat → Nat}
theorem Good.sel (g : Good s S m) (h0 : 0 < m') (hσ : ∀ j, j < m' → σ j < m) (hi : ∀ j k, j < k → k < m' → σ j ≠ σ k) (ht : (S 0).T ≤ (m' : Int)) : Good s (fun j => S (σ j)) m' := by
  have e0 := hσ 0 h0
  refine ⟨h0, fun j hj => g.F _ (hσ j hj), fun j hj => (g.T _ (hσ j hj)).trans (g.T _ e0).symm, fun j hj => (g.Lq _ (hσ j hj)).trans (g.Lq _ e0).symm, fun j hj => (g.n _ (hσ j hj)).trans (g.n _ e0).symm, fun j hj => g.idx _ (hσ j hj), fun j k hjk hk => ?_, fun j hj i hi => g.X _ (hσ j hj) i ?_, ?_, ?_, ?_, ?_, ?_⟩
  · rcases Nat.lt_or_gt_of_ne (hi j k hjk hk) with h | h
    · exact g.app _ _ h (hσ k hk)
    · exact (g.app _ _ h (hσ j (by omega))).symm
  · rw [← g.n _ e0]; exact hi
  · rw [g.T _ e0]; exact g.t1
  · rw [g.T _ e0]; exact ht
  · rw [g.Lq _ e0]; exact g.l0
  · rw [g.Lq _ e0]; exact g.l1
  · show (S (σ 0)).n = Go.Proofs.YtdnkkbmpefhbjaaGreatDoor.cn (S (σ 0)).L; rw [g.n _ e0, g.Lq _ e0]; exact g.cn
theorem OnP.sel (h : OnP s S m th F) (g : Good s S m) (h0 : 0 < m') (hσ : ∀ j, j < m' → σ j < m) : OnP s (fun j => S (σ j)) m' th F := fun j hj ch hc => h (σ j) (hσ j hj) ch (by rw [← g.n _ (hσ 0 h0)]; exact hc)
theorem OnP.itp (h : OnP s S m th F) (g : Good s S m) (ht : th ≤ m) {ch k : Nat} (hc : ch < (S 0).n) (hk : k < th) : itp (pt s (vI S)) (clz s S ch) th th k = F ch k := itp_of (g.fap.le ht) (fun j hj => (h j (by omega) ch hc).symm) hk
theorem OnP.val (h : OnP s S m th F) (g : Good s S m) (ht : th ≤ m) (h1 : 1 ≤ th) {ch : Nat} (hc : ch < (S 0).n) : valZ s S th ch = F ch 0 := by
  unfold valZ
  rw [dot_itp _ h1, h.itp g ht hc (by omega)]
theorem OnP.at_ (h : OnP s S m th F) (g : Good s S m) (ht : th ≤ m) (x : Zp s) {ch : Nat} (hc : ch < (S 0).n) : atZ s S th x ch = rEv (F ch) x th := by
  unfold atZ
  rw [Hn_ev, Sg_ev]
  exact Sg_congr fun k hk => h.itp g ht hc hk
variable {ln nn q : Nat} {xa : Nat → Option Addr} {xc : Nat → Nat}
theorem deal_good (h0 : prErr (fid s) (th : Int) (nn : Int) (ln : Int) = 0) : Good s (dealS s th ln (cn (ln : Int)) F xa xc) nn := by
  obtain ⟨_, h1, h2, h3, h4, h5, h6⟩ := prErr_0 h0
  refine ⟨by omega, fun _ _ => rfl, fun _ _ => rfl, fun _ _ => rfl, fun _ _ => rfl, fun j hj => ?_, fun j k hjk hk => ?_, fun j hj i hi => mq_lt _, h3, h4, h5, h6, rfl⟩
  · show 1 ≤ ((j + 1 : Nat) : Int) ∧ ((j + 1 : Nat) : Int) ≤ 255; omega
  · show ((j + 1 : Nat) : Int) ≠ ((k + 1 : Nat) : Int); omega
theorem deal_on (m : Nat) : OnP s (dealS s th ln q F xa xc) m th F := fun j hj ch hc => by
  have e : pt s (vI (dealS s th ln q F xa xc)) j = zn s (j + 1) := by
    show zn s (((j + 1 : Nat) : Int)).toNat = zn s (j + 1)
    rw [Int.toNat_natCast]
  rw [e, ← Sg_ev]
  exact mz_of _
theorem deal_th : thN (dealS s th ln q F xa xc) = th := by show ((th : Int)).toNat = th; exact Int.toNat_natCast th
end
/-- A list turned by i. -/
def rotI (m i k : Nat) : Nat := if k < m - i then i + k else k - (m - i)
def rot (S : Nat → Shr) (m i k : Nat) : Shr := S (rotI m i k)
theorem rotI_lt {m i : Nat} (hi : i < m) (j : Nat) (hj : j < m) : rotI m i j < m := by unfold rotI; split <;> omega
theorem rotI_ne {m i : Nat} (hi : i < m) (j k : Nat) (hjk : j < k) (hk : k < m) : rotI m i j ≠ rotI m i k := by unfold rotI; split <;> split <;> omega
theorem rot_en {S : Nat → Shr} {m i : Nat} (hi : i < m) : en shc (fun j => S (i + j)) (m - i) ++ en shc S i = en shc (rot S m i) m := by
  have e : en shc (rot S m i) m = en shc (rot S m i) (m - i) ++ en shc (fun j => rot S m i (m - i + j)) i := by
    conv => lhs; rw [show m = (m - i) + i by omega]
    unfold en
    rw [List.range_add, List.flatMap_append, List.flatMap_map, show m - i + i = m by omega]
  rw [e]
  congr 1
  · exact en_congr fun k hk => by unfold rot rotI; rw [if_pos hk]
  · exact en_congr fun k hk => by unfold rot rotI; rw [if_neg (by omega), show m - i + k - (m - i) = k by omega]
theorem en_from {S : Nat → Shr} {l n : Nat} (h : l ≤ n) : (en shc S n).drop (l * 5) = en shc (fun j => S (l + j)) (n - l) := by
  have e : en shc S n = en shc S l ++ en shc (fun j => S (l + j)) (n - l) := by
    conv => lhs; rw [show n = l + (n - l) by omega]
    unfold en
    rw [List.range_add, List.flatMap_append, List.flatMap_map]
  rw [e, List.drop_append_of_le_length (by rw [en_len shc_len]; exact Nat.le_refl _), List.drop_eq_nil_of_le (by rw [en_len shc_len]; exact Nat.le_refl _), List.nil_append]
theorem lst_from {la : Option Addr} {m lc i : Nat} {S : Nat → Shr} {R : List Res} (hS : HasR (shareR la m lc S) R) (hi : i ≤ m) (hc : m ≤ lc) : HasR (lst 5 (.slice (sla la lc i 5) (m - i) (lc - i)) (m - i) (en shc (fun j => S (i + j)) (m - i))) R := by
  have h0 := share_lst hS
  refine HasR.trans (m := lst 5 (.slice la m lc) m (en shc S m)) ⟨fun w hw => ?_, fun k hk => ⟨_, .head _, ?_⟩⟩ h0
  · have hL : LstAt w 5 (.slice la m lc) m (en shc S m) := hw _ (.head _)
    have h := hL.sub (l := i) (h := m) (m := lc) hi (Nat.le_refl _) hc (Nat.le_refl _)
    have e : ((en shc S m).drop (i * 5)).take ((m - i) * 5) = en shc (fun j => S (i + j)) (m - i) := by
      rw [en_from hi, List.take_of_length_le (by rw [en_len shc_len]; exact Nat.le_refl _)]
    rw [← e]
    exact h
  · obtain ⟨h1, h2⟩ := hk
    refine ⟨by omega, ?_⟩
    unfold sla at h2
    cases la with
    | none => split at h2 <;> simp [Value.ownBlock] at h2
    | some q =>
      split at h2
      · exact h2
      · simp only [Option.map_some, Value.ownBlock] at h2 ⊢
        rw [← h2]
        unfold Addr.add
        split <;> rfl
theorem sel_ok {tS : Nat} {la a : Option Addr} {m m' lc c : Nat} {S : Nat → Shr} {σ : Nat → Nat} {w : World} (h : (row tS 5 (.slice a m' c) m' (en shc (fun j => S (σ j)) m')).ok w) (hS : (shareR la m lc S).ok w) (hσ : ∀ j, j < m' → σ j < m) : (shareR a m' c (fun j => S (σ j))).ok w := by
  intro x hx
  simp only [List.mem_cons, List.not_mem_nil, or_false] at hx
  rcases hx with rfl | rfl
  · exact row_lst h
  · intro y hy
    obtain ⟨k, hk, rfl⟩ := List.mem_map.1 hy
    exact hS _ (.tail _ (.head _)) _ (List.mem_map.2 ⟨σ k, List.mem_range.2 (hσ k (List.mem_range.1 hk)), rfl⟩)
end Go.Proofs.YtdnkkbmpefhbjaaGreatDoor
namespace Go.Proofs.YtdnkkbmpefhbjaaGreatDoor
set_option linter.all false
open Go Go.RowKit Alg
theorem infoShare : (Tryz.prog.info? 53).map (fun i => (i.zero, i.size, i.bytes)) = some (some (.agg #[.int .i64 0, .int .i64 0, .int .i64 0, .int .i64 0, .slice none 0 0]), 5, 56) := by kernel_rfl
set_option maxRecDepth 100000 in
set_option maxHeartbeats 4000000 in
/-- slices.Grow of nil. -/
theorem grow0S_c (n : Nat) (hn : 0 < n) (hb : n ≤ 10000000) (W : World) : Calls Tryz.prog 75 #[.slice none 0 0, .int .i64 (n : Int)] W fun e w => ∃ a c, e = .returned (.slice a 0 c) ∧ Sat no W [row 53 5 (.slice a 0 c) 0 (el shc [])] [] w := by
  obtain ⟨i0, hi, hz0, hz1, hz2⟩ := info_parts infoShare
  have hrz : ∀ ty, (Builtin.append_ #[22, 3] ty #[.slice none 0 0, .int .i64 (n : Int)]).run Tryz.prog W = .ok (.slice (some ⟨W.heap.size, 0, none⟩) n (grownCap W n 0 53)) (W.drew.alloc (.cells (#[] ++ Builtin.zeroCells #[.int .i64 0, .int .i64 0, .int .i64 0, .int .i64 0, .slice none 0 0] n ++ Builtin.zeroCells #[.int .i64 0, .int .i64 0, .int .i64 0, .int .i64 0, .slice none 0 0] (grownCap W n 0 53 - n)) 53)) := fun ty => by
    have h := Lib.run_append_grow_zeros W 22 3 ty 53 i0 (.agg #[.int .i64 0, .int .i64 0, .int .i64 0, .int .i64 0, .slice none 0 0]) .i64 .i64 Tryz.underlying22 Tryz.underlying3 hi hz0 none 0 0 [] (run_firstCells_none _ _ _ _ _) n hn (by omega) (by omega) (by omega) (by rw [hz2]; omega)
      (growslice_fits (by omega) (by rw [hz2]; omega))
    rw [Nat.zero_add] at h
    exact h
  have hG := grownCap_ge W n 0 53
  have hM := grownCap_le_maxLen W n 0 53 (by unfold maxLen; omega)
  obtain ⟨G, eG⟩ : ∃ G, G = grownCap W n 0 53 := ⟨_, rfl⟩
  rw [← eG] at hrz hG hM
  have ho := World.ownsRow_made (base := W.heap.size) (e := 53) (size := 5) W (Builtin.zeroCells #[.int .i64 0, .int .i64 0, .int .i64 0, .int .i64 0, .slice none 0 0] n ++ Builtin.zeroCells #[.int .i64 0, .int .i64 0, .int .i64 0, .int .i64 0, .slice none 0 0] (G - n)) G (Nat.le_refl _) hM (by rw [Array.size_append, size_zeroCells, size_zeroCells]; show n * 5 + (G - n) * 5 = G * 5; omega)
  have Ho := Lib.hid ho
  have hM' : G ≤ 9223372036854775807 := by unfold maxLen at hM; omega
  clear ho eG hi hz0 hz1 hz2 hM
  go_enter Tryz.func75, Tryz.ntmps75
  go_wp2_with (at_builtin; refine Lib.wpList_append_run _ rfl _ _ _ _ rfl _ _ rfl rfl _ _ (hrz _) ?_)
  go_ret
  exact ⟨_, _, rfl, (Sat.start W [] (fun _ h => by cases h)).ofOwn (((Below.refl _ _).alloc (Nat.le_refl _) _).drew) Ho.out⟩
theorem grow0S_x (n : Nat) {x : Int} (hx : x = (n : Int)) (hn : 0 < n) (hb : n ≤ 10000000) (W : World) : Calls Tryz.prog 75 #[.slice none 0 0, .int .i64 x] W fun e w => ∃ a c, e = .returned (.slice a 0 c) ∧ Sat no W [row 53 5 (.slice a 0 c) 0 (el shc [])] [] w := by subst hx; exact grow0S_c n hn hb W
theorem concat_c (m lc i b : Nat) (la : Option Addr) (S : Nat → Shr) (W : World) (HS : (shareR la m lc S).ok W) (HB : (blk b [.slice (sla la lc i 5) (m - i) (lc - i), .slice la i lc] 22).ok W) (hi : i < m) (hm : m ≤ 255) : Calls Tryz.prog 38 [.slice (some ⟨b, 0, none⟩) 2 2].toArray W fun e w => ∃ a c, e = .returned (.slice a m c) ∧ Sat no W [row 53 5 (.slice a m c) m (en shc (rot S m i) m)] [] w := by
 have hcap := share_okc HS
 refine c_enter (args := [.slice (some ⟨b, 0, none⟩) 2 2]) Tryz.func38 rfl rfl rfl fun a hk => ?_
 have hs := Sat.start W [shareR la m lc S, blk b [.slice (sla la lc i 5) (m - i) (lc - i), .slice la i lc] 22] (okrc HS (okr1 HB))
 refine wS (wR ?_)
 refine q_v hk (w_as rfl) fun a hk => ?_
 refine c_end (x_t (wS (wR ?_)))
 refine q_v hk (w_as rfl) fun a hk => ?_
 refine c_end (x_t (wS (wS (wR ?_))))
 refine q_v hk (w_mv rfl) fun a hk => ?_
 refine q_v hk (w_len rfl Tryz.underlying116) fun a hk => ?_
 refine q_v hk (w_mv rfl) fun a hk => ?_
 refine c_end (x_t ?_)
 refine wpIn_block ?_
 refine c_rounds 3 ?_
 refine c_rsucc ?_
 refine wS (wR ?_)
 refine q_v hk (w_lt rfl rfl (decide_eq_true (by decide))) fun a hk => ?_
 refine c_end (x_t (wS ?_))
 refine c_T hk rfl ?_
 refine (wpIn_skip (x_t ?_))
 refine wS ?_
 refine wpIn_block ?_
 refine wS (wR ?_)
 refine q_v hk (w_iaL (k := 0) rfl rfl Tryz.underlying116 ty22 (blk_lst (hs.ri 1 rfl) rfl (Nat.le_refl _)) (by omega) (by omega)) fun a hk => ?_
 refine q_v hk (w_ld1 rfl ty22 (.blk (n := 1) (hs.ri 1 rfl) rfl)) fun a hk => ?_
 refine q_v hk (w_as rfl) fun a hk => ?_
 refine c_end (x_t (wS (wR ?_)))
 refine q_v hk (w_mv rfl) fun a hk => ?_
 refine q_v hk (w_mv rfl) fun a hk => ?_
 refine q_v hk (w_len rfl Tryz.underlying22) fun a hk => ?_
 refine q_v hk (w_add rfl rfl (wr64 (by omega) (by omega))) fun a hk => ?_
 refine q_v hk (w_as rfl) fun a hk => ?_
 refine c_end (x_t (wS (wR ?_)))
 refine q_v hk (w_mv rfl) fun a hk => ?_
 refine q_v hk (w_lt rfl rfl (decide_eq_false (by omega))) fun a hk => ?_
 refine c_end (x_t ?_)
 refine c_F hk rfl ?_
 refine (wpIn_skip (x_b (x_t ?_)))
 refine wR ?_
 refine q_v hk (w_add (r := 1) rfl rfl (by decide)) fun a hk => ?_
 refine q_v hk (w_mv rfl) fun a hk => ?_
 refine c_end (x_t ?_)
 refine c_rsucc ?_
 refine wS (wR ?_)
 refine q_v hk (w_lt rfl rfl (decide_eq_true (by decide))) fun a hk => ?_
 refine c_end (x_t (wS ?_))
 refine c_T hk rfl ?_
 refine (wpIn_skip (x_t ?_))
 refine wS ?_
 refine wpIn_block ?_
 refine wS (wR ?_)
 refine q_v hk (w_iaL (k := 1) rfl rfl Tryz.underlying116 ty22 (blk_lst (hs.ri 1 rfl) rfl (Nat.le_refl _)) (by omega) (by omega)) fun a hk => ?_
 refine q_v hk (w_ld1 rfl ty22 (.blk (n := 1) (hs.ri 1 rfl) rfl)) fun a hk => ?_
 refine q_v hk (w_as rfl) fun a hk => ?_
 refine c_end (x_t (wS (wR ?_)))
 refine q_v hk (w_mv rfl) fun a hk => ?_
 refine q_v hk (w_mv rfl) fun a hk => ?_
 refine q_v hk (w_len rfl Tryz.underlying22) fun a hk => ?_
 refine q_v hk (w_add rfl rfl (wr64 (by omega) (by omega))) fun a hk => ?_
 refine q_v hk (w_as rfl) fun a hk => ?_
 refine c_end (x_t (wS (wR ?_)))
 refine q_v hk (w_mv rfl) fun a hk => ?_
 refine q_v hk (w_lt rfl rfl (decide_eq_false (by omega))) fun a hk => ?_
 refine c_end (x_t ?_)
 refine c_F hk rfl ?_
 refine (wpIn_skip (x_b (x_t ?_)))
 refine wR ?_
 refine q_v hk (w_add (r := 2) rfl rfl (by decide)) fun a hk => ?_
 refine q_v hk (w_mv rfl) fun a hk => ?_
 refine c_end (x_t ?_)
 refine c_rsucc ?_
 refine wS (wR ?_)
 refine q_v hk (w_lt rfl rfl (decide_eq_false (by decide))) fun a hk => ?_
 refine c_end (x_t (wS ?_))
 refine c_F hk rfl ?_
 refine (wpIn_exit (x_te (x_te (x_be ?_))))
 refine (x_t ?_)
 refine wS (wR ?_)
 refine q_v hk (w_mv rfl) fun a hk => ?_
 refine q_call (caps := []) hk rfl rfl Tryz.func75 fo75 rfl rfl (grow0S_x m (x := ((0 + (((m - i) : Nat) : Int)) + ((i : Nat) : Int))) (by omega) (by omega) (by omega) _) ?_
 rintro _ w ⟨a1, c2, rfl, hS⟩
 have hs := hs.call1 hS
 clear hS
 refine ⟨_, rfl, fun a hk => ?_⟩
 refine q_v hk (w_as rfl) fun a hk => ?_
 refine c_end (x_t (wS (wS (wR ?_))))
 refine q_v hk (w_mv rfl) fun a hk => ?_
 refine q_v hk (w_len rfl Tryz.underlying116) fun a hk => ?_
 refine q_v hk (w_mv rfl) fun a hk => ?_
 refine c_end (x_t ?_)
 refine wpIn_block ?_
 refine c_rounds 3 ?_
 refine c_rsucc ?_
 refine wS (wR ?_)
 refine q_v hk (w_lt rfl rfl (decide_eq_true (by decide))) fun a hk => ?_
 refine c_end (x_t (wS ?_))
 refine c_T hk rfl ?_
 refine (wpIn_skip (x_t ?_))
 refine wS ?_
 refine wpIn_block ?_
 refine wS (wR ?_)
 refine q_v hk (w_iaL (k := 0) rfl rfl Tryz.underlying116 ty22 (blk_lst (hs.ri 1 rfl) rfl (Nat.le_refl _)) (by omega) (by omega)) fun a hk => ?_
 refine q_v hk (w_ld1 rfl ty22 (.blk (n := 1) (hs.ri 1 rfl) rfl)) fun a hk => ?_
 refine q_v hk (w_as rfl) fun a hk => ?_
 refine c_end (x_t (wR ?_))
 refine q_v hk (w_mv rfl) fun a hk => ?_
 refine q_v hk (w_mv rfl) fun a hk => ?_
 refine q_appL (news := (en shc (fun j => S (i + j)) (m - i))) (mm := (m - i)) hk hs rfl rfl Tryz.underlying22 ty53 zr53 rfl rfl ((lst_from (HasR.nth 0 rfl : HasR (shareR la m lc S) _) (by omega) hcap).at_ hs) (en_ones shc_ones) (by omega) (by omega) rfl rfl fun a3 c4 w a hk hs => ?_
 rw [Nat.zero_add (m - i)] at hk hs
 refine q_v hk (w_as rfl) fun a hk => ?_
 refine (c_end (x_b (x_t ?_)))
 refine wR ?_
 refine q_v hk (w_add (r := 1) rfl rfl (by decide)) fun a hk => ?_
 refine q_v hk (w_mv rfl) fun a hk => ?_
 refine c_end (x_t ?_)
 refine c_rsucc ?_
 refine wS (wR ?_)
 refine q_v hk (w_lt rfl rfl (decide_eq_true (by decide))) fun a hk => ?_
 refine c_end (x_t (wS ?_))
 refine c_T hk rfl ?_
 refine (wpIn_skip (x_t ?_))
 refine wS ?_
 refine wpIn_block ?_
 refine wS (wR ?_)
 refine q_v hk (w_iaL (k := 1) rfl rfl Tryz.underlying116 ty22 (blk_lst (hs.ri 1 rfl) rfl (Nat.le_refl _)) (by omega) (by omega)) fun a hk => ?_
 refine q_v hk (w_ld1 rfl ty22 (.blk (n := 1) (hs.ri 1 rfl) rfl)) fun a hk => ?_
 refine q_v hk (w_as rfl) fun a hk => ?_
 refine c_end (x_t (wR ?_))
 refine q_v hk (w_mv rfl) fun a hk => ?_
 refine q_v hk (w_mv rfl) fun a hk => ?_
 refine q_appL (news := (en shc S i)) (mm := i) hk hs rfl rfl Tryz.underlying22 ty53 zr53 rfl rfl (((lst_take (n := m) rfl (by omega : i ≤ m) (en_len shc_len) (en_take shc_len (by omega : i ≤ m))).trans (share_lst (HasR.nth 0 rfl : HasR (shareR la m lc S) _))).at_ hs) (en_ones shc_ones) (by omega) (by omega) rfl rfl fun a5 c6 w a hk hs => ?_
 refine q_v hk (w_as rfl) fun a hk => ?_
 refine (c_end (x_b (x_t ?_)))
 refine wR ?_
 refine q_v hk (w_add (r := 2) rfl rfl (by decide)) fun a hk => ?_
 refine q_v hk (w_mv rfl) fun a hk => ?_
 refine c_end (x_t ?_)
 refine c_rsucc ?_
 refine wS (wR ?_)
 refine q_v hk (w_lt rfl rfl (decide_eq_false (by decide))) fun a hk => ?_
 refine c_end (x_t (wS ?_))
 refine c_F hk rfl ?_
 refine (wpIn_exit (x_te (x_te (x_be ?_))))
 refine (x_t ?_)
 refine wS (wR ?_)
 refine q_v hk (w_mv rfl) fun a hk => ?_
 refine q_v hk (w_as rfl) fun a hk => ?_
 refine c_end (x_t ?_)
 refine (wpIn_ret ?_)
 refine c_ret1 hk rfl rfl ?_
 rw [show m - i + i = m by omega] at hs
 have hs := hs.rw0 (show _ = row 53 5 (.slice a5 m c6) m (en shc (rot S m i) m) from congrArg _ (rot_en hi))
 rw [show m - i + i = m by omega]
 exact ⟨_, _, rfl, hs.fin⟩
end Go.Proofs.YtdnkkbmpefhbjaaGreatDoor
namespace Go.Proofs.YtdnkkbmpefhbjaaGreatDoor
set_option linter.all false
open Go Go.RowKit Alg
theorem sh2_cells {y0 y1 y2 a0 a1 a2 : Nat} : en shc (sh3 y0 y1 y2 a0 a1 a2) 2 = [.int .i64 1, .int .i64 2, .int .i64 1, .int .i64 1, .slice (some ⟨a0, 0, none⟩) 1 1, .int .i64 1, .int .i64 2, .int .i64 2, .int .i64 1, .slice (some ⟨a1, 0, none⟩) 1 1] := rfl
section
variable {b a0 a1 a2 y2 TB TP : Nat} {w : World}
theorem sh2_in {y0 y1 : Nat} (h : (blk b [.int .i64 1, .int .i64 2, .int .i64 1, .int .i64 1, .slice (some ⟨a0, 0, none⟩) 1 1, .int .i64 1, .int .i64 2, .int .i64 2, .int .i64 1, .slice (some ⟨a1, 0, none⟩) 1 1] TB).ok w)
    (h0 : (blk a0 (vq (mq (zn false y0))) TP).ok w) (h1 : (blk a1 (vq (mq (zn false y1))) TP).ok w) : (shareR (some ⟨b, 0, none⟩) 2 2 (sh3 y0 y1 0 a0 a1 0)).ok w := by
  intro x hx
  simp only [List.mem_cons, List.not_mem_nil, or_false] at hx
  rcases hx with rfl | rfl
  · exact blk_lst (by rw [sh2_cells]; exact h) (en_len shc_len) (Nat.le_refl _)
  · intro y hy
    obtain ⟨k, hk, rfl⟩ := List.mem_map.1 hy
    have hk' := List.mem_range.1 hk
    match k, hk' with
    | 0, _ => exact blk_lst h0 rfl (Nat.le_refl _)
    | 1, _ => exact blk_lst h1 rfl (Nat.le_refl _)
variable (HS : (shareR (some ⟨b, 0, none⟩) 2 2 (sh3 8 11 0 a0 a1 0)).ok w) (HL : Laid w)
include HS HL
theorem alVal : Calls Tryz.prog 41 #[.pointer none, .slice (some ⟨b, 0, none⟩) 2 2] w fun e w' => ∃ a c, e = .returned (.tuple #[.slice a 1 c, .int .i64 0]) ∧ Sat no w [row 56 4 (.slice a 1 c) 1 (en vq (fun _ => mq (zn false 5)) 1)] [] w' := by
  have h := valuesN HS HL sh2_ok sh2_good sh2_err (by decide) (by show (1 : Nat) ≤ 7; decide)
  have e : en vq (fun i => mq (valZ false (sh3 8 11 0 a0 a1 0) 2 i)) 1 = en vq (fun _ => mq (zn false 5)) 1 := en_congr fun i hi => by rw [Nat.lt_one_iff.1 hi, sh2_val]
  refine h.mono fun _ _ h => ?_
  obtain ⟨a, c, h1, h2⟩ := h
  refine ⟨a, c, h1, ?_⟩
  rw [← e]
  exact h2
theorem alCom : Calls Tryz.prog 44 #[.pointer none, .slice (some ⟨b, 0, none⟩) 2 2] w fun e w' => ∃ a k c, e = .returned (.tuple #[.slice a k c, .int .i64 0]) ∧ Sat no w [row 5 1 (.slice a k c) k (el bc [5])] [] w' := by
  have h := combN HS HL sh2_ok sh2_good sh2_err (by decide) (by show (1 : Nat) ≤ 7; decide)
  refine h.mono fun _ _ h => ?_
  obtain ⟨a, k, c, h1, h2⟩ := h
  have e1 : jErr 1 1 (valN false (sh3 8 11 0 a0 a1 0) 2) = 0 := jErr_5 sh2_vN
  have e2 : jBytes 1 1 (valN false (sh3 8 11 0 a0 a1 0) 2) = [5] := jBytes_5 sh2_vN
  have h1' : _ = Ending.returned (.tuple #[.slice a k c, .int .i64 (jErr 1 1 (valN false (sh3 8 11 0 a0 a1 0) 2))]) := h1
  have h2' : Sat no w [row 5 1 (.slice a k c) k (el bc (jBytes 1 1 (valN false (sh3 8 11 0 a0 a1 0) 2)))] [] _ := h2
  rw [e1] at h1'
  rw [e2] at h2'
  exact ⟨a, k, c, h1', h2'⟩
theorem alAt : Calls Tryz.prog 47 #[.pointer none, .slice (some ⟨b, 0, none⟩) 2 2, .int .i64 3] w fun e w' => ∃ a c, e = .returned (.tuple #[.agg #[.int .i64 1, .int .i64 2, .int .i64 3, .int .i64 1, .slice a 1 c], .int .i64 0]) ∧ Sat no w [row 56 4 (.slice a 1 c) 1 (en vq (fun _ => mq (zn false 14)) 1)] [] w' := by
  have h := atN HS HL sh2_ok sh2_good sh2_err (by decide) (by show (1 : Nat) ≤ 7; decide) 3 (by decide) (by decide)
  have e : en vq (fun i => mq (atZ false (sh3 8 11 0 a0 a1 0) 2 (zn false 3) i)) 1 = en vq (fun _ => mq (zn false 14)) 1 := en_congr fun i hi => by rw [Nat.lt_one_iff.1 hi, sh2_at]
  refine h.mono fun _ _ h => ?_
  obtain ⟨a, c, h1, h2⟩ := h
  refine ⟨a, c, h1, ?_⟩
  rw [← e]
  exact h2
end
theorem litE {w : World} {b x T : Nat} (h : (blk b (vq x) T).ok w) : LstAt w 4 (.slice (some ⟨b, 0, none⟩) 1 1) 1 (en vq (fun _ => x) 1) := by
  have e : en vq (fun _ : Nat => x) 1 = vq x := by simp [en]
  rw [e]
  exact blk_lst h (vq_len x) (Nat.le_refl _)
theorem lit5 {w : World} {a : Option Addr} {c : Nat} (h : LstAt w 1 (.slice a 1 c) 1 [.int .u8 5]) : LstAt w 1 (.slice a 1 c) 1 (el bc [5]) := h
theorem alive17_s (v pb : Nat) (W : World) (HP : (blk pb (vq (pr false)) 47).ok W) (hv : v < 1000) : Calls Tryz.prog 76 [.int .u64 ((v : Nat) : Int), .pointer (some ⟨pb, 0, none⟩)].toArray W fun e w => ∃ b, e = .returned (.slice (some ⟨b, 0, none⟩) 1 1) ∧ Sat no W [blk b (vq (mq (zn false v))) 56] [] w := by
 refine c_enter (args := [.int .u64 ((v : Nat) : Int), .pointer (some ⟨pb, 0, none⟩)]) Tryz.func76 rfl rfl rfl fun a hk => ?_
 have hs := Sat.start W [blk pb [.int .u64 ((dg 0 (pr false) : Nat) : Int), .int .u64 ((dg 1 (pr false) : Nat) : Int), .int .u64 ((dg 2 (pr false) : Nat) : Int), .int .u64 ((dg 3 (pr false) : Nat) : Int)] 47] (okr1 HP)
 refine wS (wR ?_)
 refine q_v hk (w_as rfl) fun a hk => ?_
 refine c_end (x_t (wS (wR ?_)))
 refine q_v hk (w_ldv (z := pr false) rfl ty47 (.blk (n := 4) (hs.ri 0 rfl) rfl)) fun a hk => ?_
 refine q_v hk (w_mv rfl) fun a hk => ?_
 refine q_v hk (w_bldv1 (k := v) rfl (by omega) (by unfold Go.Proofs.YtdnkkbmpefhbjaaGreatDoor.W; omega) Tryz.underlying47 ty46 zr47) fun a hk => ?_
 refine q_call (caps := []) hk rfl rfl Tryz.func43 fo43 rfl rfl (rform_s v hv _) ?_
 rintro _ w ⟨rfl, hb⟩
 have hs := hs.below hb
 refine ⟨_, rfl, fun a hk => ?_⟩
 refine q_bsl (els := [.tmp 7]) (cs := [.int .u64 ((dg 0 (mq (zn false v)) : Nat) : Int), .int .u64 ((dg 1 (mq (zn false v)) : Nat) : Int), .int .u64 ((dg 2 (mq (zn false v)) : Nat) : Int), .int .u64 ((dg 3 (mq (zn false v)) : Nat) : Int)]) hk hs rfl Tryz.underlying51 ty56 zr56 rfl rfl rfl rfl rfl rfl rfl fun b1 w a hk hs => ?_
 refine q_v hk (w_as rfl) fun a hk => ?_
 refine c_end (x_t ?_)
 refine (wpIn_ret ?_)
 refine c_ret1 hk rfl rfl ?_
 exact ⟨_, rfl, hs.fin⟩
theorem eqE_c (n lc yc : Nat) (la ya : Option Addr) (f : Nat → Nat) (W : World) (HX : LstAt W 4 (.slice la n lc) n (en vq f n)) (HY : LstAt W 4 (.slice ya n yc) n (en vq f n)) (hn : n ≤ 1000000) (hf : ∀ i, i < n → f i < R4) : Calls Tryz.prog 77 [.slice la n lc, .slice ya n yc].toArray W fun e w => e = .returned (.bool true) ∧ Below W.heap.size W w := by
 refine c_enter (args := [.slice la n lc, .slice ya n yc]) Tryz.func77 rfl rfl rfl fun a hk => ?_
 have hs := Sat.start W [lst 4 (.slice la n lc) n (en vq (fun i => f i) n), lst 4 (.slice ya n yc) n (en vq (fun i => f i) n)] (okrc HX (okr1 HY))
 refine wS (wR ?_)
 refine q_v hk (w_as rfl) fun a hk => ?_
 refine c_end (x_t (wS (wS (wR ?_))))
 refine q_v hk (w_mv rfl) fun a hk => ?_
 refine q_v hk (w_len rfl Tryz.underlying51) fun a hk => ?_
 refine q_v hk (w_mv rfl) fun a hk => ?_
 refine q_v hk (w_len rfl Tryz.underlying51) fun a hk => ?_
 refine q_v hk (w_ne rfl rfl (decide_eq_false (by omega))) fun a hk => ?_
 refine c_end (x_t ?_)
 refine c_F hk rfl ?_
 refine (wpIn_skip (x_t ?_))
 refine wS (wS (wR ?_))
 refine q_v hk (w_mv rfl) fun a hk => ?_
 refine q_v hk (w_len rfl Tryz.underlying51) fun a hk => ?_
 refine q_v hk (w_mv rfl) fun a hk => ?_
 refine c_end (x_t ?_)
 refine wpIn_block ?_
 refine c_loop (α := Nat) (fun k a w => k ≤ n ∧ Kn [] 26 [(13, .int .i64 ((k : Nat) : Int)), (12, .int .i64 ((n : Nat) : Int)), (0, .slice la n lc), (1, .slice ya n yc)] a ∧ Sat no W [] [lst 4 (.slice la n lc) n (en vq (fun i => f i) n), lst 4 (.slice ya n yc) n (en vq (fun i => f i) n)] w) (fun k => n - k) 0 ?_ ?_
 · exact ⟨(by omega), hk.k rfl (hk.k rfl (hk.k rfl (hk.k rfl hk.nil))), hs⟩
 rintro k a w ⟨hf0, hk, hs⟩
 refine wS (wR ?_)
 rcases Classical.em (((k : Nat) : Int) < ((n : Nat) : Int)) with hc1 | hc1
 ·
  have hlt : k < n := by omega
  refine q_v hk (w_lt rfl rfl (decide_eq_true hc1)) fun a hk => ?_
  refine c_end (x_t (wS ?_))
  refine c_T hk rfl ?_
  refine (wpIn_skip (x_t ?_))
  refine wS ?_
  refine wpIn_block ?_
  refine wS (wR ?_)
  refine q_v hk (w_mv rfl) fun a hk => ?_
  refine q_v hk (w_as rfl) fun a hk => ?_
  refine c_end (x_t (wS ?_))
  have hL := okL.cons (hs.ri 0 rfl) (okL.cons (hs.ri 1 rfl) okL.nil)
  refine d_begin _ 9 (by kernel_rfl) rfl hs hL fun w hs hL => ?_
  refine d_w 0 1 hk hL rfl (fun w hL => w_mv rfl) fun a hk => ?_
  refine d_w 1 3 hk hL rfl (fun w hL => w_mv rfl) fun a hk => ?_
  refine d_w 2 7 hk hL rfl (fun w hL => w_iaL (k := k) rfl rfl Tryz.underlying51 ty56 (hL.at 0 rfl) (by omega) (by omega)) fun a hk => ?_
  refine d_w 3 15 hk hL rfl (fun w hL => w_ldv (z := f k) rfl ty56 (lstq (k := k) (hL.at 0 rfl) (by omega) (en_chunk vq_len (by omega)))) fun a hk => ?_
  refine d_w 4 31 hk hL rfl (fun w hL => w_mv rfl) fun a hk => ?_
  refine d_w 5 63 hk hL rfl (fun w hL => w_mv rfl) fun a hk => ?_
  refine d_w 6 127 hk hL rfl (fun w hL => w_iaL (k := k) rfl rfl Tryz.underlying51 ty56 (hL.at 1 rfl) (by omega) (by omega)) fun a hk => ?_
  refine d_w 7 255 hk hL rfl (fun w hL => w_ldv (z := f k) rfl ty56 (lstq (k := k) (hL.at 1 rfl) (by omega) (en_chunk vq_len (by omega)))) fun a hk => ?_
  refine d_w 8 511 hk hL rfl (fun w hL => w_vne rfl rfl (hf k hlt) (hf k hlt) Tryz.underlying56 Tryz.underlying46 ty46 eg56 (decide_eq_false (fun h => h rfl))) fun a hk => ?_
  refine d_end (by kernel_rfl) ?_
  refine (x_t ?_)
  refine c_F hk rfl ?_
  refine (wpIn_skip (x_b (x_t ?_)))
  refine wR ?_
  refine q_v hk (w_add rfl rfl (wr64 (by omega) (by omega))) fun a hk => ?_
  refine q_v hk (w_mv rfl) fun a hk => ?_
  refine c_end (x_t ?_)
  exact ⟨k + 1, ⟨(by omega), hk.k rfl (hk.k rfl (hk.k rfl (hk.k rfl hk.nil))), hs⟩, by omega⟩
 ·
  refine q_v hk (w_lt rfl rfl (decide_eq_false hc1)) fun a hk => ?_
  refine c_end (x_t (wS ?_))
  refine c_F hk rfl ?_
  refine (wpIn_exit (x_te (x_te (x_be ?_))))
  refine (x_t ?_)
  refine wS (wR ?_)
  refine q_v hk (w_as rfl) fun a hk => ?_
  refine c_end (x_t ?_)
  refine (wpIn_ret ?_)
  refine c_ret1 hk rfl rfl ?_
  exact ⟨rfl, hs.toBelow⟩
theorem alive17_c  (W : World) (HL : Laid W) : Calls Tryz.prog 40 [].toArray W fun e w => e = .returned (.bool true) ∧ Below W.heap.size W w := by
 refine c_enter (args := []) Tryz.func40 rfl rfl rfl fun a hk => ?_
 have hs := Sat.start W [] (fun _ h => by cases h)
 refine wS (wR ?_)
 refine q_v hk (w_as rfl) fun a hk => ?_
 refine c_end (x_t (wS (wR ?_)))
 refine q_call (caps := []) hk rfl rfl Tryz.func28 fo28 rfl rfl (rmodulus_z (s := false) rfl _) ?_
 rintro _ w ⟨rfl, hb⟩
 have hs := hs.below hb
 refine ⟨_, rfl, fun a hk => ?_⟩
 refine q_alc (vs := [.int .u64 0, .int .u64 0, .int .u64 0, .int .u64 0]) hk hs zr47 rfl rfl rfl fun b1 w a hk hs => ?_
 refine q_sto (o := 0) (cs := [.int .u64 ((dg 0 (pr false) : Nat) : Int), .int .u64 ((dg 1 (pr false) : Nat) : Int), .int .u64 ((dg 2 (pr false) : Nat) : Int), .int .u64 ((dg 3 (pr false) : Nat) : Int)]) (vs' := [.int .u64 ((dg 0 (pr false) : Nat) : Int), .int .u64 ((dg 1 (pr false) : Nat) : Int), .int .u64 ((dg 2 (pr false) : Nat) : Int), .int .u64 ((dg 3 (pr false) : Nat) : Int)]) hk hs rfl rfl rfl ty47 rfl rfl rfl rfl rfl rfl fun w hs => ?_
 refine c_end (x_t (wS (wR ?_)))
 refine q_v hk (w_mkf (frees := [.tmp 1]) rfl) fun a hk => ?_
 refine q_v hk (w_as rfl) fun a hk => ?_
 refine c_end (x_t (wS (wR ?_)))
 refine q_v hk (w_mv rfl) fun a hk => ?_
 refine q_call (caps := [.pointer (some ⟨b1, 0, none⟩)]) hk rfl rfl Tryz.func76 fo76 rfl rfl (alive17_s 8 b1 _ (hs.mi 0 rfl) (by decide)) ?_
 rintro _ w ⟨b2, rfl, hS⟩
 have hs := hs.call1 hS
 clear hS
 refine ⟨_, rfl, fun a hk => ?_⟩
 refine q_v hk (w_bld rfl fl53 zr53 rfl rfl) fun a hk => ?_
 refine q_v hk (w_mv rfl) fun a hk => ?_
 refine q_call (caps := [.pointer (some ⟨b1, 0, none⟩)]) hk rfl rfl Tryz.func76 fo76 rfl rfl (alive17_s 11 b1 _ (hs.mi 1 rfl) (by decide)) ?_
 rintro _ w ⟨b3, rfl, hS⟩
 have hs := hs.call1 hS
 clear hS
 refine ⟨_, rfl, fun a hk => ?_⟩
 refine q_v hk (w_bld rfl fl53 zr53 rfl rfl) fun a hk => ?_
 refine q_bsl (els := [.tmp 14, .tmp 17]) (cs := [.int .i64 1, .int .i64 2, .int .i64 1, .int .i64 1, .slice (some ⟨b2, 0, none⟩) 1 1, .int .i64 1, .int .i64 2, .int .i64 2, .int .i64 1, .slice (some ⟨b3, 0, none⟩) 1 1]) hk hs rfl Tryz.underlying22 ty53 zr53 rfl rfl rfl rfl rfl rfl rfl fun b4 w a hk hs => ?_
 refine q_v hk (w_as rfl) fun a hk => ?_
 refine c_end (x_t (wS (wR ?_)))
 refine q_v hk (w_mv rfl) fun a hk => ?_
 refine q_call (caps := []) hk rfl rfl Tryz.func41 fo41 rfl rfl (alVal (sh2_in (y0 := 8) (y1 := 11) (hs.mi 0 rfl) (hs.mi 2 rfl) (hs.mi 1 rfl)) (HL.step hs.toBelow)) ?_
 rintro _ w ⟨a5, c6, rfl, hS⟩
 have hs := hs.call1 hS
 clear hS
 refine ⟨_, rfl, fun a hk => ?_⟩
 refine q_v hk (w_mv rfl) fun a hk => ?_
 refine q_v hk (w_ext rfl rfl) fun a hk => ?_
 refine q_v hk (w_ext rfl rfl) fun a hk => ?_
 refine q_v hk (w_as rfl) fun a hk => ?_
 refine q_v hk (w_as rfl) fun a hk => ?_
 refine c_end (x_t (wS (wR ?_)))
 refine q_v hk (w_mv rfl) fun a hk => ?_
 refine q_call (caps := []) hk rfl rfl Tryz.func44 fo44 rfl rfl (alCom (sh2_in (y0 := 8) (y1 := 11) (hs.mi 1 rfl) (hs.mi 3 rfl) (hs.mi 2 rfl)) (HL.step hs.toBelow)) ?_
 rintro _ w ⟨a7, k8, c9, rfl, hS⟩
 have hs := hs.call1 hS
 clear hS
 refine ⟨_, rfl, fun a hk => ?_⟩
 refine q_v hk (w_mv rfl) fun a hk => ?_
 refine q_v hk (w_ext rfl rfl) fun a hk => ?_
 refine q_v hk (w_ext rfl rfl) fun a hk => ?_
 refine q_v hk (w_as rfl) fun a hk => ?_
 refine q_v hk (w_as rfl) fun a hk => ?_
 refine c_end (x_t (wS (wR ?_)))
 refine q_v hk (w_mv rfl) fun a hk => ?_
 refine q_call (caps := []) hk rfl rfl Tryz.func47 fo47 rfl rfl (alAt (sh2_in (y0 := 8) (y1 := 11) (hs.mi 2 rfl) (hs.mi 4 rfl) (hs.mi 3 rfl)) (HL.step hs.toBelow)) ?_
 rintro _ w ⟨a10, c11, rfl, hS⟩
 have hs := hs.call1 hS
 clear hS
 refine ⟨_, rfl, fun a hk => ?_⟩
 refine q_v hk (w_mv rfl) fun a hk => ?_
 refine q_v hk (w_ext rfl rfl) fun a hk => ?_
 refine q_v hk (w_ext rfl rfl) fun a hk => ?_
 refine q_alc (vs := [.int .i64 0, .int .i64 0, .int .i64 0, .int .i64 0, .slice none 0 0]) hk hs zr53 rfl rfl rfl fun b12 w a hk hs => ?_
 refine q_sto (o := 0) (cs := [.int .i64 1, .int .i64 2, .int .i64 3, .int .i64 1, .slice a10 1 c11]) (vs' := [.int .i64 1, .int .i64 2, .int .i64 3, .int .i64 1, .slice a10 1 c11]) hk hs rfl rfl rfl ty53 rfl rfl rfl rfl rfl rfl fun w hs => ?_
 refine q_v hk (w_as rfl) fun a hk => ?_
 refine c_end (x_t (wS ?_))
 have hL := okL.cons (hs.mi 0 rfl) okL.nil
 refine d_begin _ 34 (by kernel_rfl) rfl hs hL fun w hs hL => ?_
 refine d_w 0 1 hk hL rfl (fun w hL => w_mv rfl) fun a hk => ?_
 refine d_w 1 3 hk hL rfl (fun w hL => w_eq rfl rfl (decide_eq_true (by decide))) fun a hk => ?_
 refine d_w 2 7 hk hL rfl (fun w hL => w_mv rfl) fun a hk => ?_
 refine d_w 3 15 hk hL rfl (fun w hL => w_mv rfl) fun a hk => ?_
 refine d_w 4 31 hk hL rfl (fun w hL => w_mv rfl) fun a hk => ?_
 refine d_1 5 63 rfl (by kernel_rfl) fun K hK => ?_
 refine q_call (caps := [.pointer (some ⟨b1, 0, none⟩)]) hk rfl rfl Tryz.func76 fo76 rfl rfl (alive17_s 5 b1 _ (hs.mi 7 rfl) (by decide)) ?_
 rintro _ w ⟨b1_5, rfl, hS⟩
 have hs := hs.call1 hS
 clear hS
 refine ⟨_, rfl, fun a hk => ?_⟩
 have hL := okL.cons (hs.mi 1 rfl) okL.nil
 refine c_end (x_t (hK _ _ hL ?_))
 clear hK K
 refine d_1 6 127 rfl (by kernel_rfl) fun K hK => ?_
 refine q_call (caps := []) hk rfl rfl Tryz.func77 fo77 rfl rfl (eqE_c 1 c6 1 a5 (some ⟨b1_5, 0, none⟩) (fun _ => mq (zn false 5)) _ (row_lst (hs.mi 4 rfl)) (litE (hs.mi 0 rfl)) (by decide) (fun _ _ => mq_lt4 _)) ?_
 rintro _ w ⟨rfl, hb⟩
 have hs := hs.below hb
 refine ⟨_, rfl, fun a hk => ?_⟩
 have hL := okL.cons (hs.mi 1 rfl) okL.nil
 refine c_end (x_t (hK _ _ hL ?_))
 clear hK K
 refine d_w 7 255 hk hL rfl (fun w hL => w_pickT rfl rfl) fun a hk => ?_
 refine d_w 8 511 hk hL rfl (fun w hL => w_mv rfl) fun a hk => ?_
 refine d_w 9 1023 hk hL rfl (fun w hL => w_mv rfl) fun a hk => ?_
 refine d_w 10 2047 hk hL rfl (fun w hL => w_eq rfl rfl (decide_eq_true (by decide))) fun a hk => ?_
 refine d_w 11 4095 hk hL rfl (fun w hL => w_pickT rfl rfl) fun a hk => ?_
 refine d_w 12 8191 hk hL rfl (fun w hL => w_mv rfl) fun a hk => ?_
 refine d_w 13 16383 hk hL rfl (fun w hL => w_mv rfl) fun a hk => ?_
 refine d_1 14 32767 rfl (by kernel_rfl) fun K hK => ?_
 refine q_bsl (els := [.const (.int .u8 5)]) (cs := [.int .u8 5]) hk hs rfl Tryz.underlying42 ty5 zr5 rfl rfl rfl rfl rfl rfl rfl fun b1_14 w a hk hs => ?_
 have hL := okL.cons (hs.mi 2 rfl) okL.nil
 refine c_end (x_t (hK _ _ hL ?_))
 clear hK K
 refine d_1 15 65535 rfl (by kernel_rfl) fun K hK => ?_
 refine q_call (caps := []) hk rfl rfl Tryz.func46 fo46 rfl rfl (bytesEqQ _ a7 (some ⟨b1_14, 0, none⟩) k8 c9 1 1 [5] [5] (row_lst (hs.mi 4 rfl)) (lit5 (blk_lst (hs.mi 0 rfl) rfl (Nat.le_refl _))) rfl) ?_
 rintro _ _ ⟨rfl, rfl⟩
 refine ⟨_, rfl, fun a hk => ?_⟩
 have hL := okL.cons (hs.mi 2 rfl) okL.nil
 refine c_end (x_t (hK _ _ hL ?_))
 clear hK K
 refine d_w 16 131071 hk hL rfl (fun w hL => w_pickT rfl rfl) fun a hk => ?_
 refine d_w 17 262143 hk hL rfl (fun w hL => w_mv rfl) fun a hk => ?_
 refine d_w 18 524287 hk hL rfl (fun w hL => w_mv rfl) fun a hk => ?_
 refine d_w 19 1048575 hk hL rfl (fun w hL => w_eq rfl rfl (decide_eq_true (by decide))) fun a hk => ?_
 refine d_w 20 2097151 hk hL rfl (fun w hL => w_pickT rfl rfl) fun a hk => ?_
 refine d_w 21 4194303 hk hL rfl (fun w hL => w_mv rfl) fun a hk => ?_
 refine d_w 22 8388607 hk hL rfl (fun w hL => w_fa rfl fq53_2 ty3) fun a hk => ?_
 refine d_w 23 16777215 hk hL rfl (fun w hL => w_ld1 rfl ty3 (.blk (n := 1) (hL.at 0 rfl) rfl)) fun a hk => ?_
 refine d_w 24 33554431 hk hL rfl (fun w hL => w_eq rfl rfl (decide_eq_true (by decide))) fun a hk => ?_
 refine d_w 25 67108863 hk hL rfl (fun w hL => w_pickT rfl rfl) fun a hk => ?_
 refine d_w 26 134217727 hk hL rfl (fun w hL => w_mv rfl) fun a hk => ?_
 refine d_w 27 268435455 hk hL rfl (fun w hL => w_fa rfl fq53_4 ty51) fun a hk => ?_
 refine d_w 28 536870911 hk hL rfl (fun w hL => w_ld1 rfl ty51 (.blk (n := 1) (hL.at 0 rfl) rfl)) fun a hk => ?_
 refine d_w 29 1073741823 hk hL rfl (fun w hL => w_mv rfl) fun a hk => ?_
 refine d_1 30 2147483647 rfl (by kernel_rfl) fun K hK => ?_
 refine q_call (caps := [.pointer (some ⟨b1, 0, none⟩)]) hk rfl rfl Tryz.func76 fo76 rfl rfl (alive17_s 14 b1 _ (hs.mi 9 rfl) (by decide)) ?_
 rintro _ w ⟨b1_30, rfl, hS⟩
 have hs := hs.call1 hS
 clear hS
 refine ⟨_, rfl, fun a hk => ?_⟩
 have hL := okL.cons (hs.mi 3 rfl) okL.nil
 refine c_end (x_t (hK _ _ hL ?_))
 clear hK K
 refine d_1 31 4294967295 rfl (by kernel_rfl) fun K hK => ?_
 refine q_call (caps := []) hk rfl rfl Tryz.func77 fo77 rfl rfl (eqE_c 1 c11 1 a10 (some ⟨b1_30, 0, none⟩) (fun _ => mq (zn false 14)) _ (row_lst (hs.mi 4 rfl)) (litE (hs.mi 0 rfl)) (by decide) (fun _ _ => mq_lt4 _)) ?_
 rintro _ w ⟨rfl, hb⟩
 have hs := hs.below hb
 refine ⟨_, rfl, fun a hk => ?_⟩
 have hL := okL.cons (hs.mi 3 rfl) okL.nil
 refine c_end (x_t (hK _ _ hL ?_))
 clear hK K
 refine d_w 32 8589934591 hk hL rfl (fun w hL => w_pickT rfl rfl) fun a hk => ?_
 refine d_w 33 17179869183 hk hL rfl (fun w hL => w_as rfl) fun a hk => ?_
 refine d_end (by kernel_rfl) ?_
 refine (x_t ?_)
 refine (wpIn_ret ?_)
 refine c_ret1 hk rfl rfl ?_
 exact ⟨rfl, hs.toBelow⟩
end Go.Proofs.YtdnkkbmpefhbjaaGreatDoor
namespace Go.Proofs.YtdnkkbmpefhbjaaGreatDoor
set_option linter.all false
open Go Go.RowKit Alg
end Go.Proofs.YtdnkkbmpefhbjaaGreatDoor
namespace Go.Proofs.YtdnkkbmpefhbjaaGreatDoor
set_option linter.all false
open Go Go.RowKit Alg
end Go.Proofs.YtdnkkbmpefhbjaaGreatDoor
namespace Go.Proofs.YtdnkkbmpefhbjaaGreatDoor
set_option linter.all false
open Go Go.RowKit Alg
/-- Shares that are the call's own, with their payloads. -/
def ownS (a : Option Addr) (m c : Nat) (S : Nat → Shr) : Res := bun [row 53 5 (.slice a m c) m (en shc S m), bun ((List.range m).map fun j => row 56 4 (.slice (S j).a (S j).n (S j).c) (S j).n (en vq (S j).X (S j).n))]
theorem ownS_ok {a : Option Addr} {m c : Nat} {S : Nat → Shr} {w : World} (h : (ownS a m c S).ok w) : (shareR a m c S).ok w := by
  have h1 := h.1 _ (.head _)
  have h2 := h.1 _ (.tail _ (.head _))
  intro x hx
  simp only [List.mem_cons, List.not_mem_nil, or_false] at hx
  rcases hx with rfl | rfl
  · exact row_lst h1
  · intro y hy
    obtain ⟨k, hk, rfl⟩ := List.mem_map.1 hy
    exact row_lst (h2.1 _ (List.mem_map.2 ⟨k, hk, rfl⟩))
theorem own_frz {F0 : Nat → Prop} {W w : World} {M R : List Res} {a : Option Addr} {m c : Nat} {S : Nat → Shr} (hs : Sat F0 W (ownS a m c S :: M) R w) : Sat F0 W M (shareR a m c S :: R) w := by
  refine hs.frz (ownS_ok (hs.okM _ (.head _))) fun k hk => ?_
  obtain ⟨x, hx, hk⟩ := hk
  simp only [List.mem_cons, List.not_mem_nil, or_false] at hx
  rcases hx with rfl | rfl
  · exact ⟨_, .head _, hk.2⟩
  · obtain ⟨y, hy, hk⟩ := hk
    obtain ⟨j, hj, rfl⟩ := List.mem_map.1 hy
    exact ⟨_, .tail _ (.head _), _, List.mem_map.2 ⟨j, hj, rfl⟩, hk.2⟩
/-- What is known of the shares of a secret. -/
structure Dealt (s : Bool) (th nn ln : Nat) (f : Nat → Nat) (S : Nat → Shr) (F : Nat → Nat → Zp s) : Prop where
  g : Good s S nn
  on : OnP s S nn th F
  th_ : thN S = th
  n_ : ∀ j, (S j).n = cn (ln : Int)
  l_ : ∀ j, (S j).L = (ln : Int)
  t_ : ∀ j, (S j).T = (th : Int)
  f_ : ∀ j, (S j).F = fid s
  i_ : ∀ j, (S j).I = ((j + 1 : Nat) : Int)
  x_ : ∀ j ch, (S j).X ch = mq (rEv (F ch) (zn s (j + 1)) th)
  z_ : ∀ i, i < cn (ln : Int) → F i 0 = zn s (cv ln f i)
theorem dealW {s : Bool} {th nn ln rn sc rc : Nat} {sa ra : Option Addr} {f fr : Nat → Nat} {w : World} (h0 : prErr (fid s) (th : Int) (nn : Int) (ln : Int) = 0) (HS : LstAt w 1 (.slice sa ln sc) ln (en bc f ln)) (hf : ∀ j, f j < 256) (HR : LstAt w 1 (.slice ra rn rc) rn (en bc fr rn)) (hfr : ∀ j, fr j < 256) (hr : 64 * (th - 1) * cn (ln : Int) ≤ rn) (hr9 : rn ≤ 100000000) :
    Calls Tryz.prog 27 #[.agg #[.int .i64 (fid s), .int .i64 (th : Int), .int .i64 (nn : Int), .int .i64 (ln : Int)], .slice sa ln sc, .slice ra rn rc] w fun e w' => ∃ S F a c, Dealt s th nn ln f S F ∧ e = .returned (.tuple #[.slice a nn c, .int .i64 0]) ∧ Sat no w [ownS a nn c S] [] w' := by
  refine (deal_c s th nn ln rn sc rc sa ra f fr w h0 HS hf HR hfr hr hr9).mono fun e w' h => ?_
  obtain ⟨F, xa, xc, a, c, hz, he, hs⟩ := h
  exact ⟨dealS s th ln (cn (ln : Int)) F xa xc, F, a, c, ⟨deal_good h0, deal_on nn, deal_th, fun _ => rfl, fun _ => rfl, fun _ => rfl, fun _ => rfl, fun _ => rfl, fun _ _ => rfl, hz⟩, he, Sat.pack (l := [_, _]) hs⟩
/-- Deal may work. -/
def okDeal (F T N L : Int) (sn rn : Nat) : Prop := prErr F T N L = 0 ∧ ((sn : Nat) : Int) = L ∧ 64 * (T.toNat - 1) * cn L ≤ rn
theorem dealNo {F T N L : Int} {sn rn sc rc : Nat} {sa ra : Option Addr} {w : World} (h : ¬ okDeal F T N L sn rn) (hr9 : rn ≤ 100000000) : Calls Tryz.prog 27 #[.agg #[.int .i64 F, .int .i64 T, .int .i64 N, .int .i64 L], .slice sa sn sc, .slice ra rn rc] w fun e w' => ∃ q : Int, e = .returned (.tuple #[.slice none 0 0, .int .i64 q]) ∧ q ≠ 0 ∧ Below w.heap.size w w' := by
  by_cases h0 : prErr F T N L = 0
  · by_cases hl : ((sn : Nat) : Int) = L
    · obtain ⟨hF, h1, h2, h3, h4, h5, h6⟩ := prErr_0 h0
      obtain ⟨th, rfl⟩ : ∃ k : Nat, T = k := ⟨T.toNat, by omega⟩
      obtain ⟨nn, rfl⟩ : ∃ k : Nat, N = k := ⟨N.toNat, by omega⟩
      subst hl
      obtain ⟨s, rfl⟩ : ∃ s, F = fid s := by
        rcases hF with rfl | rfl
        · exact ⟨false, rfl⟩
        · exact ⟨true, rfl⟩
      have hr : rn < 64 * (th - 1) * cn ((sn : Nat) : Int) := by
        refine Nat.lt_of_not_le fun hle => h ⟨h0, rfl, ?_⟩
        rw [Int.toNat_natCast]; exact hle
      have hq9 : 64 * (th - 1) * cn ((sn : Nat) : Int) ≤ 100000000 := Nat.le_trans (Nat.mul_le_mul (Nat.mul_le_mul_left 64 (show th - 1 ≤ 255 by omega)) (cn_bound sn)) (by decide)
      exact (deal_b3 s th nn sn rn sc rc sa ra _ w h0 rfl hr hq9).mono fun _ _ hq => ⟨7, hq.1, by decide, hq.2⟩
    · exact (deal_b2 F T N L sn rn sc rc sa ra w h0 hl).mono fun _ _ hq => ⟨8, hq.1, by decide, hq.2⟩
  · exact (deal_b1 F T N L sn rn sc rc sa ra w h0).mono fun _ _ hq => ⟨_, hq.1, h0, hq.2⟩
theorem large16_c (F T N L : Int) (sn rn sc rc : Nat) (sa ra : Option Addr) (W : World)  : Calls Tryz.prog 26 [.agg #[.int .i64 F, .int .i64 T, .int .i64 N, .int .i64 L], .slice sa sn sc, .slice ra rn rc].toArray W fun e w => ∃ x : Int, e = .returned (.int .i64 x) ∧ Below W.heap.size W w ∧ (¬ 0 < x → sn ≤ 200 ∧ rn ≤ 10000) := by
 refine c_enter (args := [.agg #[.int .i64 F, .int .i64 T, .int .i64 N, .int .i64 L], .slice sa sn sc, .slice ra rn rc]) Tryz.func26 rfl rfl rfl fun a hk => ?_
 have hs := Sat.start W [] (fun _ h => by cases h)
 refine wS (wR ?_)
 refine q_box (vs := [.int .i64 F, .int .i64 T, .int .i64 N, .int .i64 L]) hk hs rfl rfl rfl rfl fun b1 w a hk hs => ?_
 refine q_v hk (w_as rfl) fun a hk => ?_
 refine c_end (x_t (wS (wS (wR ?_))))
 refine q_v hk (w_mv rfl) fun a hk => ?_
 refine q_v hk (w_len rfl Tryz.underlying42) fun a hk => ?_
 rcases Classical.em (200 < ((sn : Nat) : Int)) with hc2 | hc2
 ·
  refine q_v hk (w_gt rfl rfl (decide_eq_true hc2)) fun a hk => ?_
  refine q_v hk (w_mv rfl) fun a hk => ?_
  refine q_skip hk rfl rfl fun a hk => ?_
  refine q_skip hk rfl rfl fun a hk => ?_
  refine q_skip hk rfl rfl fun a hk => ?_
  refine q_v hk (w_pickT rfl rfl) fun a hk => ?_
  refine q_v hk (w_mv rfl) fun a hk => ?_
  refine q_skip hk rfl rfl fun a hk => ?_
  refine q_skip hk rfl rfl fun a hk => ?_
  refine q_skip hk rfl rfl fun a hk => ?_
  refine q_skip hk rfl rfl fun a hk => ?_
  refine q_skip hk rfl rfl fun a hk => ?_
  refine q_skip hk rfl rfl fun a hk => ?_
  refine q_skip hk rfl rfl fun a hk => ?_
  refine q_skip hk rfl rfl fun a hk => ?_
  refine q_v hk (w_pickT rfl rfl) fun a hk => ?_
  refine q_v hk (w_mv rfl) fun a hk => ?_
  refine q_skip hk rfl rfl fun a hk => ?_
  refine q_skip hk rfl rfl fun a hk => ?_
  refine q_skip hk rfl rfl fun a hk => ?_
  refine q_skip hk rfl rfl fun a hk => ?_
  refine q_skip hk rfl rfl fun a hk => ?_
  refine q_skip hk rfl rfl fun a hk => ?_
  refine q_skip hk rfl rfl fun a hk => ?_
  refine q_skip hk rfl rfl fun a hk => ?_
  refine q_skip hk rfl rfl fun a hk => ?_
  refine q_skip hk rfl rfl fun a hk => ?_
  refine q_skip hk rfl rfl fun a hk => ?_
  refine q_v hk (w_pickT rfl rfl) fun a hk => ?_
  refine c_end (x_t ?_)
  refine c_T hk rfl ?_
  refine wS (wR ?_)
  refine q_v hk (w_as rfl) fun a hk => ?_
  refine c_end (x_t ?_)
  refine (wpIn_ret (x_tr ?_))
  refine c_ret1 hk rfl rfl ?_
  exact ⟨_, rfl, hs.toBelow, fun h => absurd (show (0 : Int) < 1 by decide) h⟩
 ·
  refine q_v hk (w_gt rfl rfl (decide_eq_false hc2)) fun a hk => ?_
  refine q_v hk (w_mv rfl) fun a hk => ?_
  refine q_v hk (w_mv rfl) fun a hk => ?_
  refine q_v hk (w_len rfl Tryz.underlying42) fun a hk => ?_
  rcases Classical.em (10000 < ((rn : Nat) : Int)) with hc3 | hc3
  ·
   refine q_v hk (w_gt rfl rfl (decide_eq_true hc3)) fun a hk => ?_
   refine q_v hk (w_pickF rfl rfl) fun a hk => ?_
   refine q_v hk (w_mv rfl) fun a hk => ?_
   refine q_skip hk rfl rfl fun a hk => ?_
   refine q_skip hk rfl rfl fun a hk => ?_
   refine q_skip hk rfl rfl fun a hk => ?_
   refine q_skip hk rfl rfl fun a hk => ?_
   refine q_skip hk rfl rfl fun a hk => ?_
   refine q_skip hk rfl rfl fun a hk => ?_
   refine q_skip hk rfl rfl fun a hk => ?_
   refine q_skip hk rfl rfl fun a hk => ?_
   refine q_v hk (w_pickT rfl rfl) fun a hk => ?_
   refine q_v hk (w_mv rfl) fun a hk => ?_
   refine q_skip hk rfl rfl fun a hk => ?_
   refine q_skip hk rfl rfl fun a hk => ?_
   refine q_skip hk rfl rfl fun a hk => ?_
   refine q_skip hk rfl rfl fun a hk => ?_
   refine q_skip hk rfl rfl fun a hk => ?_
   refine q_skip hk rfl rfl fun a hk => ?_
   refine q_skip hk rfl rfl fun a hk => ?_
   refine q_skip hk rfl rfl fun a hk => ?_
   refine q_skip hk rfl rfl fun a hk => ?_
   refine q_skip hk rfl rfl fun a hk => ?_
   refine q_skip hk rfl rfl fun a hk => ?_
   refine q_v hk (w_pickT rfl rfl) fun a hk => ?_
   refine c_end (x_t ?_)
   refine c_T hk rfl ?_
   refine wS (wR ?_)
   refine q_v hk (w_as rfl) fun a hk => ?_
   refine c_end (x_t ?_)
   refine (wpIn_ret (x_tr ?_))
   refine c_ret1 hk rfl rfl ?_
   exact ⟨_, rfl, hs.toBelow, fun h => absurd (show (0 : Int) < 1 by decide) h⟩
  ·
   refine q_v hk (w_gt rfl rfl (decide_eq_false hc3)) fun a hk => ?_
   refine q_v hk (w_pickF rfl rfl) fun a hk => ?_
   refine q_v hk (w_mv rfl) fun a hk => ?_
   refine q_v hk (w_fa rfl fq41_2 ty3) fun a hk => ?_
   refine q_v hk (w_ld1 rfl ty3 (.blk (n := 1) (hs.mi 0 rfl) rfl)) fun a hk => ?_
   rcases Classical.em (12 < N) with hc4 | hc4
   ·
    refine q_v hk (w_gt rfl rfl (decide_eq_true hc4)) fun a hk => ?_
    refine q_v hk (w_mv rfl) fun a hk => ?_
    refine q_v hk (w_fa rfl fq41_3 ty3) fun a hk => ?_
    refine q_v hk (w_ld1 rfl ty3 (.blk (n := 1) (hs.mi 0 rfl) rfl)) fun a hk => ?_
    rcases Classical.em (70 < L) with hc5 | hc5
    ·
     refine q_v hk (w_gt rfl rfl (decide_eq_true hc5)) fun a hk => ?_
     refine q_v hk (w_pickT rfl rfl) fun a hk => ?_
     refine q_v hk (w_pickF rfl rfl) fun a hk => ?_
     refine q_v hk (w_mv rfl) fun a hk => ?_
     refine q_skip hk rfl rfl fun a hk => ?_
     refine q_skip hk rfl rfl fun a hk => ?_
     refine q_skip hk rfl rfl fun a hk => ?_
     refine q_skip hk rfl rfl fun a hk => ?_
     refine q_skip hk rfl rfl fun a hk => ?_
     refine q_skip hk rfl rfl fun a hk => ?_
     refine q_skip hk rfl rfl fun a hk => ?_
     refine q_skip hk rfl rfl fun a hk => ?_
     refine q_skip hk rfl rfl fun a hk => ?_
     refine q_skip hk rfl rfl fun a hk => ?_
     refine q_skip hk rfl rfl fun a hk => ?_
     refine q_v hk (w_pickT rfl rfl) fun a hk => ?_
     refine c_end (x_t ?_)
     refine c_T hk rfl ?_
     refine wS (wR ?_)
     refine q_v hk (w_as rfl) fun a hk => ?_
     refine c_end (x_t ?_)
     refine (wpIn_ret (x_tr ?_))
     refine c_ret1 hk rfl rfl ?_
     exact ⟨_, rfl, hs.toBelow, fun h => absurd (show (0 : Int) < 1 by decide) h⟩
    ·
     refine q_v hk (w_gt rfl rfl (decide_eq_false hc5)) fun a hk => ?_
     refine q_v hk (w_pickT rfl rfl) fun a hk => ?_
     refine q_v hk (w_pickF rfl rfl) fun a hk => ?_
     refine q_v hk (w_mv rfl) fun a hk => ?_
     refine q_v hk (w_fa rfl fq41_1 ty3) fun a hk => ?_
     refine q_v hk (w_ld1 rfl ty3 (.blk (n := 1) (hs.mi 0 rfl) rfl)) fun a hk => ?_
     rcases Classical.em (12 < T) with hc6 | hc6
     ·
      refine q_v hk (w_gt rfl rfl (decide_eq_true hc6)) fun a hk => ?_
      refine q_v hk (w_mv rfl) fun a hk => ?_
      refine q_v hk (w_fa rfl fq41_2 ty3) fun a hk => ?_
      refine q_v hk (w_ld1 rfl ty3 (.blk (n := 1) (hs.mi 0 rfl) rfl)) fun a hk => ?_
      refine q_v hk (w_fa rfl fq41_3 ty3) fun a hk => ?_
      refine q_v hk (w_ld1 rfl ty3 (.blk (n := 1) (hs.mi 0 rfl) rfl)) fun a hk => ?_
      refine q_v hk (w_mul (r := IntKind.i64.wrap (N * L)) rfl rfl rfl) fun a hk => ?_
      rcases Classical.em (300 < (IntKind.i64.wrap (N * L))) with hc7 | hc7
      ·
       refine q_v hk (w_gt rfl rfl (decide_eq_true hc7)) fun a hk => ?_
       refine q_v hk (w_pickT rfl rfl) fun a hk => ?_
       refine q_v hk (w_pickF rfl rfl) fun a hk => ?_
       refine c_end (x_t ?_)
       refine c_T hk rfl ?_
       refine wS (wR ?_)
       refine q_v hk (w_as rfl) fun a hk => ?_
       refine c_end (x_t ?_)
       refine (wpIn_ret (x_tr ?_))
       refine c_ret1 hk rfl rfl ?_
       exact ⟨_, rfl, hs.toBelow, fun h => absurd (show (0 : Int) < 1 by decide) h⟩
      ·
       refine q_v hk (w_gt rfl rfl (decide_eq_false hc7)) fun a hk => ?_
       refine q_v hk (w_pickT rfl rfl) fun a hk => ?_
       refine q_v hk (w_pickF rfl rfl) fun a hk => ?_
       refine c_end (x_t ?_)
       refine c_F hk rfl ?_
       refine (wpIn_skip (x_t ?_))
       refine wS (wR ?_)
       refine q_v hk (w_as rfl) fun a hk => ?_
       refine c_end (x_t ?_)
       refine (wpIn_ret ?_)
       refine c_ret1 hk rfl rfl ?_
       exact ⟨_, rfl, hs.toBelow, fun _ => ⟨by omega, by omega⟩⟩
     ·
      refine q_v hk (w_gt rfl rfl (decide_eq_false hc6)) fun a hk => ?_
      refine q_v hk (w_mv rfl) fun a hk => ?_
      refine q_skip hk rfl rfl fun a hk => ?_
      refine q_skip hk rfl rfl fun a hk => ?_
      refine q_skip hk rfl rfl fun a hk => ?_
      refine q_skip hk rfl rfl fun a hk => ?_
      refine q_skip hk rfl rfl fun a hk => ?_
      refine q_skip hk rfl rfl fun a hk => ?_
      refine q_v hk (w_pickF rfl rfl) fun a hk => ?_
      refine q_v hk (w_pickF rfl rfl) fun a hk => ?_
      refine c_end (x_t ?_)
      refine c_F hk rfl ?_
      refine (wpIn_skip (x_t ?_))
      refine wS (wR ?_)
      refine q_v hk (w_as rfl) fun a hk => ?_
      refine c_end (x_t ?_)
      refine (wpIn_ret ?_)
      refine c_ret1 hk rfl rfl ?_
      exact ⟨_, rfl, hs.toBelow, fun _ => ⟨by omega, by omega⟩⟩
   ·
    refine q_v hk (w_gt rfl rfl (decide_eq_false hc4)) fun a hk => ?_
    refine q_v hk (w_mv rfl) fun a hk => ?_
    refine q_skip hk rfl rfl fun a hk => ?_
    refine q_skip hk rfl rfl fun a hk => ?_
    refine q_skip hk rfl rfl fun a hk => ?_
    refine q_v hk (w_pickF rfl rfl) fun a hk => ?_
    refine q_v hk (w_pickF rfl rfl) fun a hk => ?_
    refine q_v hk (w_mv rfl) fun a hk => ?_
    refine q_v hk (w_fa rfl fq41_1 ty3) fun a hk => ?_
    refine q_v hk (w_ld1 rfl ty3 (.blk (n := 1) (hs.mi 0 rfl) rfl)) fun a hk => ?_
    rcases Classical.em (12 < T) with hc8 | hc8
    ·
     refine q_v hk (w_gt rfl rfl (decide_eq_true hc8)) fun a hk => ?_
     refine q_v hk (w_mv rfl) fun a hk => ?_
     refine q_v hk (w_fa rfl fq41_2 ty3) fun a hk => ?_
     refine q_v hk (w_ld1 rfl ty3 (.blk (n := 1) (hs.mi 0 rfl) rfl)) fun a hk => ?_
     refine q_v hk (w_fa rfl fq41_3 ty3) fun a hk => ?_
     refine q_v hk (w_ld1 rfl ty3 (.blk (n := 1) (hs.mi 0 rfl) rfl)) fun a hk => ?_
     refine q_v hk (w_mul (r := IntKind.i64.wrap (N * L)) rfl rfl rfl) fun a hk => ?_
     rcases Classical.em (300 < (IntKind.i64.wrap (N * L))) with hc9 | hc9
     ·
      refine q_v hk (w_gt rfl rfl (decide_eq_true hc9)) fun a hk => ?_
      refine q_v hk (w_pickT rfl rfl) fun a hk => ?_
      refine q_v hk (w_pickF rfl rfl) fun a hk => ?_
      refine c_end (x_t ?_)
      refine c_T hk rfl ?_
      refine wS (wR ?_)
      refine q_v hk (w_as rfl) fun a hk => ?_
      refine c_end (x_t ?_)
      refine (wpIn_ret (x_tr ?_))
      refine c_ret1 hk rfl rfl ?_
      exact ⟨_, rfl, hs.toBelow, fun h => absurd (show (0 : Int) < 1 by decide) h⟩
     ·
      refine q_v hk (w_gt rfl rfl (decide_eq_false hc9)) fun a hk => ?_
      refine q_v hk (w_pickT rfl rfl) fun a hk => ?_
      refine q_v hk (w_pickF rfl rfl) fun a hk => ?_
      refine c_end (x_t ?_)
      refine c_F hk rfl ?_
      refine (wpIn_skip (x_t ?_))
      refine wS (wR ?_)
      refine q_v hk (w_as rfl) fun a hk => ?_
      refine c_end (x_t ?_)
      refine (wpIn_ret ?_)
      refine c_ret1 hk rfl rfl ?_
      exact ⟨_, rfl, hs.toBelow, fun _ => ⟨by omega, by omega⟩⟩
    ·
     refine q_v hk (w_gt rfl rfl (decide_eq_false hc8)) fun a hk => ?_
     refine q_v hk (w_mv rfl) fun a hk => ?_
     refine q_skip hk rfl rfl fun a hk => ?_
     refine q_skip hk rfl rfl fun a hk => ?_
     refine q_skip hk rfl rfl fun a hk => ?_
     refine q_skip hk rfl rfl fun a hk => ?_
     refine q_skip hk rfl rfl fun a hk => ?_
     refine q_skip hk rfl rfl fun a hk => ?_
     refine q_v hk (w_pickF rfl rfl) fun a hk => ?_
     refine q_v hk (w_pickF rfl rfl) fun a hk => ?_
     refine c_end (x_t ?_)
     refine c_F hk rfl ?_
     refine (wpIn_skip (x_t ?_))
     refine wS (wR ?_)
     refine q_v hk (w_as rfl) fun a hk => ?_
     refine c_end (x_t ?_)
     refine (wpIn_ret ?_)
     refine c_ret1 hk rfl rfl ?_
     exact ⟨_, rfl, hs.toBelow, fun _ => ⟨by omega, by omega⟩⟩
end Go.Proofs.YtdnkkbmpefhbjaaGreatDoor
namespace Go.Proofs.YtdnkkbmpefhbjaaGreatDoor
set_option linter.all false
open Go Go.RowKit Alg
theorem cn_200 {n : Nat} (h : n ≤ 200) : cn (n : Int) ≤ 7 := by unfold cn; rw [if_pos (by omega)]; omega
section
variable {s : Bool} {th nn ln i k : Nat} {f : Nat → Nat} {S : Nat → Shr} {F : Nat → Nat → Zp s} (D : Dealt s th nn ln f S F)
include D
theorem Dealt.sel {m' : Nat} {σ : Nat → Nat} (h0 : 0 < m') (hσ : ∀ j, j < m' → σ j < nn) (hi : ∀ j k, j < k → k < m' → σ j ≠ σ k) (ht : th ≤ m') (h255 : th ≤ 255) (h7 : cn (ln : Int) ≤ 7) (hm : m' ≤ 1000) : Good s (fun j => S (σ j)) m' ∧ csErr (fun j => S (σ j)) m' = 0 ∧ ShOk (fun j => S (σ j)) m' ∧ (S (σ 0)).n ≤ 7 ∧ thN (fun j => S (σ j)) = th ∧ OnP s (fun j => S (σ j)) m' th F := by
  have g : Good s (fun j => S (σ j)) m' := D.g.sel h0 hσ hi (by rw [D.t_]; omega)
  refine ⟨g, g.err (by show (S (σ 0)).T ≤ 255; rw [D.t_]; omega), ⟨by omega, fun k hk => ?_, fun k hk j hj => ?_⟩, by rw [D.n_]; exact h7, ?_, D.on.sel D.g h0 hσ⟩
  · show (S (σ k)).n ≤ _
    rw [D.n_]; omega
  · show (S (σ k)).X j < R4
    rw [D.x_]; exact mq_lt4 _
  · show ((S (σ 0)).T).toNat = th
    rw [D.t_, Int.toNat_natCast]
end
theorem okDeal_nat {F T N L : Int} {sn rn : Nat} (h : okDeal F T N L sn rn) : ∃ s th nn, F = fid s ∧ T = ((th : Nat) : Int) ∧ N = ((nn : Nat) : Int) ∧ L = ((sn : Nat) : Int) ∧ prErr (fid s) ((th : Nat) : Int) ((nn : Nat) : Int) ((sn : Nat) : Int) = 0 ∧ 64 * (th - 1) * cn ((sn : Nat) : Int) ≤ rn := by
  obtain ⟨h0, hl, hr⟩ := h
  obtain ⟨hF, h1, h2, h3, h4, h5, h6⟩ := prErr_0 h0
  obtain ⟨th, rfl⟩ : ∃ k : Nat, T = k := ⟨T.toNat, by omega⟩
  obtain ⟨nn, rfl⟩ : ∃ k : Nat, N = k := ⟨N.toNat, by omega⟩
  subst hl
  rw [Int.toNat_natCast] at hr
  rcases hF with rfl | rfl
  · exact ⟨false, th, nn, rfl, rfl, rfl, rfl, h0, hr⟩
  · exact ⟨true, th, nn, rfl, rfl, rfl, rfl, h0, hr⟩
end Go.Proofs.YtdnkkbmpefhbjaaGreatDoor
namespace Go.Proofs.YtdnkkbmpefhbjaaGreatDoor
set_option linter.all false
open Go Go.RowKit
section
variable {F0 : Nat → Prop} {W w : World} {M R : List Res} {T sz n c g : Nat} {a : Option Addr} {xs rest : List Value}
theorem row_some (h : (row T sz (.slice a n c) n xs).ok w) (hn : 0 < n) : ∃ g, a = some ⟨g, 0, none⟩ := by
  rcases h.2 with ⟨_, h0⟩ | ⟨g, cap, cur, e, _⟩
  · omega
  · cases e; exact ⟨g, rfl⟩
theorem openRow_s (hs : Sat F0 W (row T sz (.slice (some ⟨g, 0, none⟩) n c) n xs :: M) R w) : ∃ rest, (xs ++ rest).length = c * sz ∧ n ≤ c ∧ c ≤ maxLen ∧ xs.length = n * sz ∧ Sat F0 W (blk g (xs ++ rest) T :: M) R w := by
  obtain ⟨hl, h⟩ := hs.okM _ (.head _)
  rcases h with ⟨e, _⟩ | ⟨g', cap, cur, e, _, hh, hnc, hcm, hsz, ht⟩
  · cases e
  · cases e
    have e1 : xs ++ cur.toList.drop (n * sz) = cur.toList := by rw [← ht]; exact List.take_append_drop _ _
    refine ⟨cur.toList.drop (n * sz), by rw [e1]; simpa using hsz, hnc, hcm, hl, ?_⟩
    rw [e1]
    refine ⟨hs.keep, ?_, hs.okR, ?_, ?_, ?_⟩
    · intro x hx
      cases hx with
      | head =>
        show w.heap[g]? = some (.cells cur.toList.toArray T (0, 0))
        simpa using hh
      | tail _ h => exact hs.okM x (.tail _ h)
    · intro x hx k hk
      cases hx with
      | head => exact hs.own _ (.head _) k (by rw [show k = g from hk]; rfl)
      | tail _ h => exact hs.own x (.tail _ h) k hk
    · have hd := List.pairwise_cons.1 hs.dM
      refine List.pairwise_cons.2 ⟨fun m hm k hk => hd.1 m hm k (by rw [show k = g from hk]; rfl), hd.2⟩
    · intro x hx r hr k hk hkr
      cases hx with
      | head => exact hs.dR _ (.head _) r hr k (by rw [show k = g from hk]; rfl) hkr
      | tail _ h => exact hs.dR x (.tail _ h) r hr k hk hkr
theorem closeRow_s (hs : Sat F0 W (blk g (xs ++ rest) T :: M) R w) (h1 : (xs ++ rest).length = c * sz) (h2 : n ≤ c) (h3 : c ≤ maxLen) (h4 : xs.length = n * sz) : Sat F0 W (row T sz (.slice (some ⟨g, 0, none⟩) n c) n xs :: M) R w := by
  have hb := hs.okM _ (.head _)
  have e0 : ∀ k, (Value.slice (some ⟨g, 0, none⟩) n c).ownBlock = some k → k = g := fun k h => (Option.some.inj h).symm
  refine ⟨hs.keep, ?_, hs.okR, ?_, ?_, ?_⟩
  · intro x hx
    cases hx with
    | head => exact ⟨h4, .inr ⟨g, c, (xs ++ rest).toArray, rfl, Nat.zero_le _, hb, h2, h3, by simpa using h1, by rw [← h4]; simp⟩⟩
    | tail _ h => exact hs.okM x (.tail _ h)
  · intro x hx k hk
    cases hx with
    | head => exact hs.own _ (.head _) k (e0 k hk)
    | tail _ h => exact hs.own x (.tail _ h) k hk
  · have hd := List.pairwise_cons.1 hs.dM
    exact List.pairwise_cons.2 ⟨fun m hm k hk => hd.1 m hm k (e0 k hk), hd.2⟩
  · intro x hx r hr k hk hkr
    cases hx with
    | head => exact hs.dR _ (.head _) r hr k (e0 k hk) hkr
    | tail _ h => exact hs.dR x (.tail _ h) r hr k hk hkr
end
theorem en_put {α : Type} {cc : α → List Value} {f : Nat → α} {x' : α} {sz n k off s : Nat} {cs rest : List Value} (hlen : ∀ x, (cc x).length = sz) (hk : k < n) (hos : off + s ≤ sz) (hset : (cc (f k)).take off ++ cs ++ (cc (f k)).drop (off + s) = cc x') :
    (en cc f n ++ rest).take (k * sz + off) ++ cs ++ (en cc f n ++ rest).drop (k * sz + off + s) = en cc (fun i => if i = k then x' else f i) n ++ rest := by
  obtain ⟨d, rfl⟩ : ∃ d, n = k + 1 + d := ⟨n - (k + 1), by omega⟩
  have sp : ∀ h : Nat → α, en cc h (k + 1 + d) = en cc h k ++ (cc (h k) ++ en cc (fun j => h (k + 1 + j)) d) := fun h => by
    unfold en
    rw [List.range_add, List.range_succ, List.flatMap_append, List.flatMap_append, List.flatMap_map, List.append_assoc]
    simp
  have e1 : en cc (fun i => if i = k then x' else f i) k = en cc f k := en_congr fun i hi => if_neg (by omega)
  have e2 : en cc (fun j => (fun i => if i = k then x' else f i) (k + 1 + j)) d = en cc (fun j => f (k + 1 + j)) d := en_congr fun i hi => if_neg (by omega)
  rw [sp, sp, e1, e2]
  have hA : (en cc f k).length = k * sz := en_len hlen
  have hE := hlen (f k)
  generalize en cc f k = A at *
  generalize en cc (fun j => f (k + 1 + j)) d = B at *
  simp only [if_true]
  rw [← hset]
  generalize cc (f k) = E at *
  simp only [List.append_assoc]
  rw [← hA, List.take_length_add_append, Nat.add_assoc, List.drop_length_add_append, List.take_append_of_le_length (by omega), List.drop_append_of_le_length (by omega)]
  simp only [List.append_assoc]
section
variable {P : Program} {Q : Exit → Act → World → Prop} {r : Option Nat} {m n N s nb te T : Nat} {tt : TypeId} {ab : Bool} {G : List (Nat × Value)} {a : Act} {w : World} {Ds : List Nat} {ops : Array Oper} {rest : List Oper} {p : String} {e : Array Edge} {g : Option (Nat × Bool)} {x y : Operand} {v : Value} {F0 : Nat → Prop} {W : World} {M R : List Res} {cs : List Value}
/-- A store into a field of an element of a row of the call's own. -/
theorem q_stoR {α : Type} {cc : α → List Value} {f : Nat → α} {x' : α} {k c off sz mm : Nat} {aa : Option Addr} {q : Addr} (hk : Kn Ds N G a) (hs : Sat F0 W (row te sz (.slice aa mm c) mm (en cc f mm) :: M) R w) (hx : evq G x = some (.pointer (some q))) (hq : q = ((adq aa).add (k * sz)).add off) (hy : evq G y = some v) (ht : tq P tt = some (ab, s, nb))
    (hc : v.cells = cs.toArray) (hl : cs.length = s) (h1 : ones cs = true) (hkm : k < mm) (hlen : ∀ x, (cc x).length = sz) (hset : (cc (f k)).take off ++ cs ++ (cc (f k)).drop (off + s) = cc x') (hos : off + s ≤ sz) (hg : wq ops G g = some true)
    (h : ∀ w, Sat F0 W (row te sz (.slice aa mm c) mm (en cc (fun i => if i = k then x' else f i) mm) :: M) R w → wpListIn (Fr r) n P ops Q rest a w) : wpListIn (Fr r) n P ops Q (⟨none, .store tt x y, T, p, e, g⟩ :: rest) a w := by
  obtain ⟨gb, rfl⟩ := row_some (hs.okM _ (.head _)) (by omega)
  obtain ⟨tl, e1, e2, e3, e4, hs2⟩ := openRow_s hs
  have hb : Nat.ble (k * sz + off + s) (en cc f mm ++ tl).length = true := Nat.ble_eq_true_of_le (by
    rw [List.length_append, e4]
    have : (k + 1) * sz ≤ mm * sz := Nat.mul_le_mul_right _ hkm
    rw [Nat.succ_mul] at this
    omega)
  have ea : q = ⟨gb, k * sz + off, none⟩ := by
    rw [hq]
    show ((⟨gb, 0, none⟩ : Addr).add (k * sz)).add off = _
    rw [add_pos, add_pos, Nat.zero_add]
  refine q_sto hk hs2 hx ea hy ht hc (by rw [hl]; exact Nat.beq_refl _) h1 hb (en_put hlen hkm hos hset) hg fun w hs => h w ?_
  have e5 : (en cc (fun i => if i = k then x' else f i) mm).length = mm * sz := en_len hlen
  exact closeRow_s hs (by rw [List.length_append, e5]; rw [List.length_append, e4] at e1; exact e1) e2 e3 e5
end
end Go.Proofs.YtdnkkbmpefhbjaaGreatDoor
namespace Go.Proofs.YtdnkkbmpefhbjaaGreatDoor
set_option linter.all false
open Go Go.RowKit Alg
end Go.Proofs.YtdnkkbmpefhbjaaGreatDoor
namespace Go.Proofs.YtdnkkbmpefhbjaaGreatDoor
set_option linter.all false
open Go Go.RowKit Alg
end Go.Proofs.YtdnkkbmpefhbjaaGreatDoor
namespace Go.Proofs.YtdnkkbmpefhbjaaGreatDoor
set_option linter.all false
open Go Go.RowKit
theorem addr0 (q : Addr) (h : q.spot = none) : q = q.add 0 := by
  obtain ⟨b, o, t⟩ := q
  cases h
  exact (add_pos (b := b) (o := o) (j := 0)).symm
def revp (S : Nat → Shr) (m k i : Nat) : Shr := if i < k ∨ m - k ≤ i then S (m - 1 - i) else S i
theorem revp_0 {S : Nat → Shr} {m : Nat} : en shc S m = en shc (revp S m 0) m := en_congr fun i hi => by unfold revp; rw [if_neg (by omega)]
theorem revp_step {S : Nat → Shr} {m k : Nat} (h : k < m - 1 - k) : en shc (fun i => if i = m - 1 - k then revp S m k k else if i = k then revp S m k (m - 1 - k) else revp S m k i) m = en shc (revp S m (k + 1)) m := en_congr fun i hi => by
  have e1 : revp S m k k = S k := by unfold revp; rw [if_neg (by omega)]
  have e2 : revp S m k (m - 1 - k) = S (m - 1 - k) := by unfold revp; rw [if_neg (by omega)]
  rw [e1, e2]
  by_cases h1 : i = m - 1 - k
  · rw [if_pos h1]; unfold revp; rw [if_pos (by omega), show m - 1 - i = k by omega]
  · rw [if_neg h1]
    by_cases h2 : i = k
    · rw [if_pos h2]; unfold revp; rw [if_pos (by omega), h2]
    · rw [if_neg h2]; unfold revp
      by_cases h3 : i < k ∨ m - k ≤ i
      · rw [if_pos h3, if_pos (by omega)]
      · rw [if_neg h3, if_neg (by omega)]
theorem revp_end {S : Nat → Shr} {m k : Nat} (h : ¬ k < m - 1 - k) (hk : k ≤ m) : en shc (revp S m k) m = en shc (fun i => S (m - 1 - i)) m := en_congr fun i hi => by
  unfold revp
  by_cases h3 : i < k ∨ m - k ≤ i
  · rw [if_pos h3]
  · rw [if_neg h3, show m - 1 - i = i by omega]
theorem rev_m {F0 : Nat → Prop} {W : World} {M R : List Res} (m lc : Nat) (la : Option Addr) (S : Nat → Shr) (w0 : World) (hs : Sat F0 W ((row 53 5 (.slice la m lc) m (en shc (fun i => S i) m)) :: M) R w0) (hm0 : 0 < m) (hm : m ≤ 1000) : Calls Tryz.prog 53 [.slice la m lc].toArray w0 fun e w => ∃ v, e = .returned v ∧ Sat F0 W (row 53 5 (.slice la m lc) m (en shc (fun i => S (m - 1 - i)) m) :: M) R w := by
 refine c_enter (args := [.slice la m lc]) Tryz.func53 rfl rfl rfl fun a hk => ?_
 refine wS (wR ?_)
 refine q_v hk (w_mv rfl) fun a hk => ?_
 refine q_v hk (w_len rfl Tryz.underlying22) fun a hk => ?_
 refine q_v hk (w_sub (r := ((m - 1 - 0 : Nat) : Int)) rfl rfl (by rw [wr64 (by omega) (by omega)]; omega)) fun a hk => ?_
 refine q_v hk (w_as rfl) fun a hk => ?_
 refine q_v hk (w_as rfl) fun a hk => ?_
 refine c_end (x_t ?_)
 refine wpIn_block ?_
 have hs := hs.rw0 (congrArg (fun q => row 53 5 (.slice la m lc) m q) (revp_0))
 refine c_loop (α := Nat) (fun k a w => k ≤ m ∧ Kn [] 28 [(2, .int .i64 ((k : Nat) : Int)), (3, .int .i64 ((m - 1 - k : Nat) : Int)), (0, .slice la m lc)] a ∧ Sat F0 W ((row 53 5 (.slice la m lc) m (en shc (fun i => revp S m k i) m)) :: M) R w) (fun k => m - k) 0 ?_ ?_
 · exact ⟨(by omega), hk.k rfl (hk.k rfl (hk.k rfl hk.nil)), hs⟩
 rintro k a w ⟨hf0, hk, hs⟩
 refine wS (wS (wR ?_))
 refine q_v hk (w_mv rfl) fun a hk => ?_
 refine q_v hk (w_mv rfl) fun a hk => ?_
 rcases Classical.em (((k : Nat) : Int) < ((m - 1 - k : Nat) : Int)) with hc1 | hc1
 ·
  have hlt : k < m - 1 - k := by omega
  refine q_v hk (w_lt rfl rfl (decide_eq_true hc1)) fun a hk => ?_
  refine c_end (x_t ?_)
  refine c_T hk rfl ?_
  refine (wpIn_skip (x_t ?_))
  refine wS ?_
  refine wpIn_block ?_
  refine d_begin _ 16 (by kernel_rfl) rfl hs okL.nil fun w hs hL => ?_
  refine d_join (n2 := 4) 4095 (fun a w => Kn [] 28 [(25, .agg #[.int .i64 ((revp S m k k).F), .int .i64 ((revp S m k k).T), .int .i64 ((revp S m k k).I), .int .i64 ((revp S m k k).L), .slice ((revp S m k k).a) ((revp S m k k).n) ((revp S m k k).c)]), (24, .pointer (some ((adq la).add (k * 5)))), (21, .agg #[.int .i64 ((revp S m k (m - 1 - k)).F), .int .i64 ((revp S m k (m - 1 - k)).T), .int .i64 ((revp S m k (m - 1 - k)).I), .int .i64 ((revp S m k (m - 1 - k)).L), .slice ((revp S m k (m - 1 - k)).a) ((revp S m k (m - 1 - k)).n) ((revp S m k (m - 1 - k)).c)]), (20, .pointer (some ((adq la).add ((m - 1 - k) * 5)))), (23, .int .i64 ((k : Nat) : Int)), (22, .slice la m lc), (19, .int .i64 ((m - 1 - k : Nat) : Int)), (18, .slice la m lc), (17, .int .i64 ((m - 1 - k : Nat) : Int)), (16, .slice la m lc), (15, .int .i64 ((k : Nat) : Int)), (14, .slice la m lc), (9, .bool true), (8, .int .i64 ((m - 1 - k : Nat) : Int)), (7, .int .i64 ((k : Nat) : Int)), (2, .int .i64 ((k : Nat) : Int)), (3, .int .i64 ((m - 1 - k : Nat) : Int)), (0, .slice la m lc)] a ∧ Sat F0 W ((row 53 5 (.slice la m lc) m (en shc (fun i => revp S m k i) m)) :: M) R w ∧ okL [] w) ?_ ?_
  ·
   intro hJ4095
   refine d_join (n2 := 5) 2047 (fun a w => Kn [] 28 [(24, .pointer (some ((adq la).add (k * 5)))), (21, .agg #[.int .i64 ((revp S m k (m - 1 - k)).F), .int .i64 ((revp S m k (m - 1 - k)).T), .int .i64 ((revp S m k (m - 1 - k)).I), .int .i64 ((revp S m k (m - 1 - k)).L), .slice ((revp S m k (m - 1 - k)).a) ((revp S m k (m - 1 - k)).n) ((revp S m k (m - 1 - k)).c)]), (20, .pointer (some ((adq la).add ((m - 1 - k) * 5)))), (23, .int .i64 ((k : Nat) : Int)), (22, .slice la m lc), (19, .int .i64 ((m - 1 - k : Nat) : Int)), (18, .slice la m lc), (17, .int .i64 ((m - 1 - k : Nat) : Int)), (16, .slice la m lc), (15, .int .i64 ((k : Nat) : Int)), (14, .slice la m lc), (9, .bool true), (8, .int .i64 ((m - 1 - k : Nat) : Int)), (7, .int .i64 ((k : Nat) : Int)), (2, .int .i64 ((k : Nat) : Int)), (3, .int .i64 ((m - 1 - k : Nat) : Int)), (0, .slice la m lc)] a ∧ Sat F0 W ((row 53 5 (.slice la m lc) m (en shc (fun i => revp S m k i) m)) :: M) R w ∧ okL [] w) ?_ ?_
   ·
    intro hJ2047
    refine d_join (n2 := 5) 3967 (fun a w => Kn [] 28 [(25, .agg #[.int .i64 ((revp S m k k).F), .int .i64 ((revp S m k k).T), .int .i64 ((revp S m k k).I), .int .i64 ((revp S m k k).L), .slice ((revp S m k k).a) ((revp S m k k).n) ((revp S m k k).c)]), (24, .pointer (some ((adq la).add (k * 5)))), (20, .pointer (some ((adq la).add ((m - 1 - k) * 5)))), (23, .int .i64 ((k : Nat) : Int)), (22, .slice la m lc), (19, .int .i64 ((m - 1 - k : Nat) : Int)), (18, .slice la m lc), (17, .int .i64 ((m - 1 - k : Nat) : Int)), (16, .slice la m lc), (15, .int .i64 ((k : Nat) : Int)), (14, .slice la m lc), (9, .bool true), (8, .int .i64 ((m - 1 - k : Nat) : Int)), (7, .int .i64 ((k : Nat) : Int)), (2, .int .i64 ((k : Nat) : Int)), (3, .int .i64 ((m - 1 - k : Nat) : Int)), (0, .slice la m lc)] a ∧ Sat F0 W ((row 53 5 (.slice la m lc) m (en shc (fun i => revp S m k i) m)) :: M) R w ∧ okL [] w) ?_ ?_
    ·
     intro hJ3967
     refine d_join (n2 := 6) 1919 (fun a w => Kn [] 28 [(24, .pointer (some ((adq la).add (k * 5)))), (20, .pointer (some ((adq la).add ((m - 1 - k) * 5)))), (23, .int .i64 ((k : Nat) : Int)), (22, .slice la m lc), (19, .int .i64 ((m - 1 - k : Nat) : Int)), (18, .slice la m lc), (17, .int .i64 ((m - 1 - k : Nat) : Int)), (16, .slice la m lc), (15, .int .i64 ((k : Nat) : Int)), (14, .slice la m lc), (9, .bool true), (8, .int .i64 ((m - 1 - k : Nat) : Int)), (7, .int .i64 ((k : Nat) : Int)), (2, .int .i64 ((k : Nat) : Int)), (3, .int .i64 ((m - 1 - k : Nat) : Int)), (0, .slice la m lc)] a ∧ Sat F0 W ((row 53 5 (.slice la m lc) m (en shc (fun i => revp S m k i) m)) :: M) R w ∧ okL [] w) ?_ ?_
     ·
      intro hJ1919
      refine d_w 0 1 hk hL rfl (fun w hL => w_mv rfl) fun a hk => ?_
      refine d_w 1 3 hk hL rfl (fun w hL => w_mv rfl) fun a hk => ?_
      refine d_w 2 7 hk hL rfl (fun w hL => w_mv rfl) fun a hk => ?_
      refine d_w 3 15 hk hL rfl (fun w hL => w_mv rfl) fun a hk => ?_
      refine d_w 4 31 hk hL rfl (fun w hL => w_mv rfl) fun a hk => ?_
      refine d_w 5 63 hk hL rfl (fun w hL => w_mv rfl) fun a hk => ?_
      refine d_w 8 319 hk hL rfl (fun w hL => w_mv rfl) fun a hk => ?_
      refine d_w 9 831 hk hL rfl (fun w hL => w_mv rfl) fun a hk => ?_
      refine d_2 6 10 895 1855 rfl rfl (by kernel_rfl) (fun K hK => ?_) (fun K hK => ?_)
      ·
       refine q_v hk (w_iaL (k := m - 1 - k) rfl rfl Tryz.underlying22 ty53 (row_lst (hs.mi 0 rfl)) (by omega) (by omega)) fun a hk => ?_
       have hL : okL [] w := okL.nil
       refine c_end (x_t (hK _ _ hL ?_))
       clear hK K
       refine d_2 7 10 1023 1919 rfl rfl (by kernel_rfl) (fun K hK => ?_) (fun K hK => ?_)
       ·
        refine q_v hk (w_ldA rfl ty53 (lstq (k := m - 1 - k) (row_lst (hs.mi 0 rfl)) (by omega) (en_chunk shc_len (by omega))) rfl) fun a hk => ?_
        have hL : okL [] w := okL.nil
        refine c_end (x_t (hK _ _ hL ?_))
        clear hK K
        refine d_1 10 2047 rfl (by kernel_rfl) fun K hK => ?_
        refine q_v hk (w_iaL (k := k) rfl rfl Tryz.underlying22 ty53 (row_lst (hs.mi 0 rfl)) (by omega) (by omega)) fun a hk => ?_
        have hL : okL [] w := okL.nil
        refine c_end (x_t (hK _ _ hL ?_))
        clear hK K
        have hL : okL [] w := okL.nil
        exact hJ2047 _ _ ⟨hk.k rfl (hk.k rfl (hk.k rfl (hk.k rfl (hk.k rfl (hk.k rfl (hk.k rfl (hk.k rfl (hk.k rfl (hk.k rfl (hk.k rfl (hk.k rfl (hk.k rfl (hk.k rfl (hk.k rfl (hk.k rfl (hk.k rfl hk.nil)))))))))))))))), hs, hL⟩
       ·
        refine q_v hk (w_iaL (k := k) rfl rfl Tryz.underlying22 ty53 (row_lst (hs.mi 0 rfl)) (by omega) (by omega)) fun a hk => ?_
        have hL : okL [] w := okL.nil
        refine c_end (x_t (hK _ _ hL ?_))
        clear hK K
        have hL : okL [] w := okL.nil
        exact hJ1919 _ _ ⟨hk.k rfl (hk.k rfl (hk.k rfl (hk.k rfl (hk.k rfl (hk.k rfl (hk.k rfl (hk.k rfl (hk.k rfl (hk.k rfl (hk.k rfl (hk.k rfl (hk.k rfl (hk.k rfl (hk.k rfl (hk.k rfl hk.nil))))))))))))))), hs, hL⟩
      ·
       refine q_v hk (w_iaL (k := k) rfl rfl Tryz.underlying22 ty53 (row_lst (hs.mi 0 rfl)) (by omega) (by omega)) fun a hk => ?_
       have hL : okL [] w := okL.nil
       refine c_end (x_t (hK _ _ hL ?_))
       clear hK K
       refine d_2 6 11 1919 3903 rfl rfl (by kernel_rfl) (fun K hK => ?_) (fun K hK => ?_)
       ·
        refine q_v hk (w_iaL (k := m - 1 - k) rfl rfl Tryz.underlying22 ty53 (row_lst (hs.mi 0 rfl)) (by omega) (by omega)) fun a hk => ?_
        have hL : okL [] w := okL.nil
        refine c_end (x_t (hK _ _ hL ?_))
        clear hK K
        have hL : okL [] w := okL.nil
        exact hJ1919 _ _ ⟨hk.k rfl (hk.k rfl (hk.k rfl (hk.k rfl (hk.k rfl (hk.k rfl (hk.k rfl (hk.k rfl (hk.k rfl (hk.k rfl (hk.k rfl (hk.k rfl (hk.k rfl (hk.k rfl (hk.k rfl (hk.k rfl hk.nil))))))))))))))), hs, hL⟩
       ·
        refine q_v hk (w_ldA rfl ty53 (lstq (k := k) (row_lst (hs.mi 0 rfl)) (by omega) (en_chunk shc_len (by omega))) rfl) fun a hk => ?_
        have hL : okL [] w := okL.nil
        refine c_end (x_t (hK _ _ hL ?_))
        clear hK K
        refine d_1 6 3967 rfl (by kernel_rfl) fun K hK => ?_
        refine q_v hk (w_iaL (k := m - 1 - k) rfl rfl Tryz.underlying22 ty53 (row_lst (hs.mi 0 rfl)) (by omega) (by omega)) fun a hk => ?_
        have hL : okL [] w := okL.nil
        refine c_end (x_t (hK _ _ hL ?_))
        clear hK K
        have hL : okL [] w := okL.nil
        exact hJ3967 _ _ ⟨hk.k rfl (hk.k rfl (hk.k rfl (hk.k rfl (hk.k rfl (hk.k rfl (hk.k rfl (hk.k rfl (hk.k rfl (hk.k rfl (hk.k rfl (hk.k rfl (hk.k rfl (hk.k rfl (hk.k rfl (hk.k rfl (hk.k rfl hk.nil)))))))))))))))), hs, hL⟩
     ·
      rintro a w ⟨hk, hs, hL⟩
      refine d_2 7 11 2047 3967 rfl rfl (by kernel_rfl) (fun K hK => ?_) (fun K hK => ?_)
      ·
       refine q_v hk (w_ldA rfl ty53 (lstq (k := m - 1 - k) (row_lst (hs.mi 0 rfl)) (by omega) (en_chunk shc_len (by omega))) rfl) fun a hk => ?_
       have hL : okL [] w := okL.nil
       refine c_end (x_t (hK _ _ hL ?_))
       clear hK K
       have hL : okL [] w := okL.nil
       exact hJ2047 _ _ ⟨hk.k rfl (hk.k rfl (hk.k rfl (hk.k rfl (hk.k rfl (hk.k rfl (hk.k rfl (hk.k rfl (hk.k rfl (hk.k rfl (hk.k rfl (hk.k rfl (hk.k rfl (hk.k rfl (hk.k rfl (hk.k rfl (hk.k rfl hk.nil)))))))))))))))), hs, hL⟩
      ·
       refine q_v hk (w_ldA rfl ty53 (lstq (k := k) (row_lst (hs.mi 0 rfl)) (by omega) (en_chunk shc_len (by omega))) rfl) fun a hk => ?_
       have hL : okL [] w := okL.nil
       refine c_end (x_t (hK _ _ hL ?_))
       clear hK K
       have hL : okL [] w := okL.nil
       exact hJ3967 _ _ ⟨hk.k rfl (hk.k rfl (hk.k rfl (hk.k rfl (hk.k rfl (hk.k rfl (hk.k rfl (hk.k rfl (hk.k rfl (hk.k rfl (hk.k rfl (hk.k rfl (hk.k rfl (hk.k rfl (hk.k rfl (hk.k rfl (hk.k rfl hk.nil)))))))))))))))), hs, hL⟩
    ·
     rintro a w ⟨hk, hs, hL⟩
     refine d_1 7 4095 rfl (by kernel_rfl) fun K hK => ?_
     refine q_v hk (w_ldA rfl ty53 (lstq (k := m - 1 - k) (row_lst (hs.mi 0 rfl)) (by omega) (en_chunk shc_len (by omega))) rfl) fun a hk => ?_
     have hL : okL [] w := okL.nil
     refine c_end (x_t (hK _ _ hL ?_))
     clear hK K
     have hL : okL [] w := okL.nil
     exact hJ4095 _ _ ⟨hk.k rfl (hk.k rfl (hk.k rfl (hk.k rfl (hk.k rfl (hk.k rfl (hk.k rfl (hk.k rfl (hk.k rfl (hk.k rfl (hk.k rfl (hk.k rfl (hk.k rfl (hk.k rfl (hk.k rfl (hk.k rfl (hk.k rfl (hk.k rfl hk.nil))))))))))))))))), hs, hL⟩
   ·
    rintro a w ⟨hk, hs, hL⟩
    refine d_1 11 4095 rfl (by kernel_rfl) fun K hK => ?_
    refine q_v hk (w_ldA rfl ty53 (lstq (k := k) (row_lst (hs.mi 0 rfl)) (by omega) (en_chunk shc_len (by omega))) rfl) fun a hk => ?_
    have hL : okL [] w := okL.nil
    refine c_end (x_t (hK _ _ hL ?_))
    clear hK K
    have hL : okL [] w := okL.nil
    exact hJ4095 _ _ ⟨hk.k rfl (hk.k rfl (hk.k rfl (hk.k rfl (hk.k rfl (hk.k rfl (hk.k rfl (hk.k rfl (hk.k rfl (hk.k rfl (hk.k rfl (hk.k rfl (hk.k rfl (hk.k rfl (hk.k rfl (hk.k rfl (hk.k rfl (hk.k rfl hk.nil))))))))))))))))), hs, hL⟩
  ·
   rintro a w ⟨hk, hs, hL⟩
   refine d_1 12 8191 rfl (by kernel_rfl) fun K hK => ?_
   refine q_v hk (w_iaL (k := k) rfl rfl Tryz.underlying22 ty53 (row_lst (hs.mi 0 rfl)) (by omega) (by omega)) fun a hk => ?_
   have hL : okL [] w := okL.nil
   refine c_end (x_t (hK _ _ hL ?_))
   clear hK K
   refine d_1 13 16383 rfl (by kernel_rfl) fun K hK => ?_
   refine q_stoR (cc := shc) (x' := (revp S m k (m - 1 - k))) (k := k) (off := 0) (cs := [.int .i64 ((revp S m k (m - 1 - k)).F), .int .i64 ((revp S m k (m - 1 - k)).T), .int .i64 ((revp S m k (m - 1 - k)).I), .int .i64 ((revp S m k (m - 1 - k)).L), .slice ((revp S m k (m - 1 - k)).a) ((revp S m k (m - 1 - k)).n) ((revp S m k (m - 1 - k)).c)]) hk hs rfl (addr0 _ (by have h := (row_some (hs.okM _ (.head _)) (by omega)); obtain ⟨_, h⟩ := h; rw [h]; show ((⟨_, 0, none⟩ : Addr).add _).spot = none; rw [add_pos])) rfl ty53 rfl rfl rfl (by omega) shc_len rfl (by decide) rfl fun w hs => ?_
   have hL : okL [] w := okL.nil
   refine c_end (x_t (hK _ _ hL ?_))
   clear hK K
   refine d_1 14 32767 rfl (by kernel_rfl) fun K hK => ?_
   refine q_v hk (w_iaL (k := m - 1 - k) rfl rfl Tryz.underlying22 ty53 (row_lst (hs.mi 0 rfl)) (by omega) (by omega)) fun a hk => ?_
   have hL : okL [] w := okL.nil
   refine c_end (x_t (hK _ _ hL ?_))
   clear hK K
   refine d_1 15 65535 rfl (by kernel_rfl) fun K hK => ?_
   refine q_stoR (cc := shc) (x' := (revp S m k k)) (k := (m - 1 - k)) (off := 0) (cs := [.int .i64 ((revp S m k k).F), .int .i64 ((revp S m k k).T), .int .i64 ((revp S m k k).I), .int .i64 ((revp S m k k).L), .slice ((revp S m k k).a) ((revp S m k k).n) ((revp S m k k).c)]) hk hs rfl (addr0 _ (by have h := (row_some (hs.okM _ (.head _)) (by omega)); obtain ⟨_, h⟩ := h; rw [h]; show ((⟨_, 0, none⟩ : Addr).add _).spot = none; rw [add_pos])) rfl ty53 rfl rfl rfl (by omega) shc_len rfl (by decide) rfl fun w hs => ?_
   have hL : okL [] w := okL.nil
   refine c_end (x_t (hK _ _ hL ?_))
   clear hK K
   refine d_end (by kernel_rfl) ?_
   refine (x_b (x_t ?_))
   refine wR ?_
   refine q_v hk (w_mv rfl) fun a hk => ?_
   refine q_v hk (w_add rfl rfl (wr64 (by omega) (by omega))) fun a hk => ?_
   refine q_v hk (w_mv rfl) fun a hk => ?_
   refine q_v hk (w_sub (r := ((m - 1 - (k + 1) : Nat) : Int)) rfl rfl (by rw [wr64 (by omega) (by omega)]; omega)) fun a hk => ?_
   refine q_v hk (w_as rfl) fun a hk => ?_
   refine q_v hk (w_as rfl) fun a hk => ?_
   refine c_end (x_t ?_)
   have hs := hs.rw0 (congrArg (fun q => row 53 5 (.slice la m lc) m q) (revp_step hlt))
   exact ⟨k + 1, ⟨(by omega), hk.k rfl (hk.k rfl (hk.k rfl hk.nil)), hs⟩, by omega⟩
 ·
  refine q_v hk (w_lt rfl rfl (decide_eq_false hc1)) fun a hk => ?_
  refine c_end (x_t ?_)
  refine c_F hk rfl ?_
  refine (wpIn_exit (x_te (x_te (x_be ?_))))
  refine c_end0 hk rfl ?_
  rw [revp_end (by omega) (by omega)] at hs
  exact ⟨_, rfl, hs⟩
end Go.Proofs.YtdnkkbmpefhbjaaGreatDoor
namespace Go.Proofs.YtdnkkbmpefhbjaaGreatDoor
set_option linter.all false
open Go Go.RowKit Alg
theorem flat_chunks (N : Nat) (f : Nat → Nat) : ∀ q, (List.range q).flatMap (fun i => (List.range (cz N i)).map fun j => f (31 * i + j)) = (List.range (min N (31 * q))).map f
  | 0 => by rw [Nat.mul_zero, Nat.min_zero]; rfl
  | q + 1 => by
    rw [List.range_succ, List.flatMap_append, flat_chunks N f q, List.flatMap_singleton]
    have e : min N (31 * (q + 1)) = min N (31 * q) + cz N q := by unfold cz; omega
    rw [e, List.range_add, List.map_append, List.map_map]
    congr 1
    by_cases h : N ≤ 31 * q
    · rw [show cz N q = 0 by unfold cz; omega]; rfl
    · rw [show min N (31 * q) = 31 * q by omega]; rfl
theorem cn_mul {N : Nat} (h : N ≤ 65535) : min N (31 * cn (N : Int)) = N := by unfold cn; rw [if_pos (by omega)]; omega
theorem cv_zf {N i : Nat} {f : Nat → Nat} (hf : ∀ j, f j < 256) : Zf (cv N f i) (cz N i) := fun j h1 _ => by
  unfold byt
  have : cv N f i < 256 ^ j := Nat.lt_of_lt_of_le (le_lt (fun j => hf _) _) (Nat.pow_le_pow_right (by decide) h1)
  rw [Nat.div_eq_of_lt this]
theorem rec_err {N : Nat} {f v : Nat → Nat} (hf : ∀ j, f j < 256) (hl : N ≤ 65535) (hv : ∀ i, i < cn (N : Int) → v i = cv N f i) : jErr (cn (N : Int)) (N : Int) v = 0 := by
  have ok : okC (Int.toNat (N : Int)) v (List.range (cn (N : Int))) := fun i hi => by
    rw [hv i (List.mem_range.1 hi), Int.toNat_natCast]
    exact cv_zf hf
  unfold jErr
  rw [if_pos (by omega), if_pos rfl, if_pos ok]
theorem rec_bytes {N : Nat} {f v : Nat → Nat} (hf : ∀ j, f j < 256) (hl : N ≤ 65535) (hv : ∀ i, i < cn (N : Int) → v i = cv N f i) : jBytes (cn (N : Int)) (N : Int) v = (List.range N).map f := by
  unfold jBytes
  rw [if_pos (rec_err hf hl hv), Int.toNat_natCast]
  have e := flat_chunks N f (cn (N : Int))
  rw [cn_mul hl] at e
  rw [← e]
  unfold jFlat
  rw [List.flatMap_def, List.flatMap_def]
  congr 1
  refine List.map_congr_left fun i hi => ?_
  refine List.map_congr_left fun j hj => ?_
  rw [hv i (List.mem_range.1 hi)]
  exact byt_le (fun j => hf _) (List.mem_range.1 hj)
/-- The list turned by i, from behind. -/
def rvI (m i k : Nat) : Nat := rotI m i (m - 1 - k)
theorem rvI_lt {m i : Nat} (hi : i < m) (j : Nat) (hj : j < m) : rvI m i j < m := rotI_lt hi _ (by omega)
theorem rvI_ne {m i : Nat} (hi : i < m) (j k : Nat) (hjk : j < k) (hk : k < m) : rvI m i j ≠ rvI m i k := (rotI_ne hi (m - 1 - k) (m - 1 - j) (by omega) (by omega)).symm
section
variable {s : Bool} {th nn ln i : Nat} {f : Nat → Nat} {S : Nat → Shr} {F : Nat → Nat → Zp s} (D : Dealt s th nn ln f S F)
include D
theorem rec1 {a : Option Addr} {c n : Nat} {w : World} (hf : ∀ j, f j < 256) (hi : i < nn) (h1 : 1 ≤ th) (ht : th ≤ n) (hn : n ≤ nn) (h255 : th ≤ 255) (h7 : cn (ln : Int) ≤ 7) (hl : ln ≤ 65535) (hnn : nn ≤ 255) (HS : (shareR a n c (fun j => S (rvI nn i j))).ok w) (HL : Laid w) :
    Calls Tryz.prog 44 #[.pointer none, .slice a n c] w fun e w' => ∃ a k c, e = .returned (.tuple #[.slice a k c, .int .i64 0]) ∧ Sat no w [row 5 1 (.slice a k c) k (el bc ((List.range ln).map f))] [] w' := by
  obtain ⟨g', hz, hO, h7', hth, on'⟩ := D.sel (m' := n) (σ := rvI nn i) (by omega) (fun j hj => rvI_lt hi j (by omega)) (fun j k hjk hk => rvI_ne hi j k hjk (by omega)) ht h255 h7 (by omega)
  have h := combN (S := fun j => S (rvI nn i j)) HS HL hO g' hz (by omega) h7'
  have hv : ∀ q, q < cn (ln : Int) → valN s (fun j => S (rvI nn i j)) (thN (fun j => S (rvI nn i j))) q = cv ln f q := fun q hq => by
    rw [hth, valN_zv, on'.val g' ht h1 (by show q < (S (rvI nn i 0)).n; rw [D.n_]; exact hq), D.z_ q hq, cv_zv hf]
  have en : (S (rvI nn i 0)).n = cn (ln : Int) := D.n_ _
  have el' : (S (rvI nn i 0)).L = (ln : Int) := D.l_ _
  have h2 : Calls Tryz.prog 44 #[.pointer none, .slice a n c] w fun e w' => ∃ a k c, e = .returned (.tuple #[.slice a k c, .int .i64 (jErr (S (rvI nn i 0)).n (S (rvI nn i 0)).L (valN s (fun j => S (rvI nn i j)) (thN (fun j => S (rvI nn i j)))))]) ∧ Sat no w [row 5 1 (.slice a k c) k (el bc (jBytes (S (rvI nn i 0)).n (S (rvI nn i 0)).L (valN s (fun j => S (rvI nn i j)) (thN (fun j => S (rvI nn i j))))))] [] w' := h
  rw [en, el', rec_err hf hl hv, rec_bytes hf hl hv] at h2
  exact h2
end
end Go.Proofs.YtdnkkbmpefhbjaaGreatDoor
namespace Go.Proofs.YtdnkkbmpefhbjaaGreatDoor
set_option linter.all false
open Go Go.RowKit Alg
theorem take_ok {la : Option Addr} {m lc th : Nat} {S : Nat → Shr} {w : World} (h : (shareR la m lc S).ok w) (ht : th ≤ m) : (shareR la th lc S).ok w :=
  (share_take (R := [shareR la m lc S]) .head ht).ok w fun r hr => by rcases List.mem_singleton.1 hr with rfl; exact h
theorem sec_el {w : World} {a : Option Addr} {n c : Nat} {f : Nat → Nat} (h : LstAt w 1 (.slice a n c) n (en bc f n)) : LstAt w 1 (.slice a n c) n (el bc ((List.range n).map f)) := by rw [← en_el]; exact h
theorem lawRec_bad (F T N L : Int) (sn rn sc rc xf xk : Nat) (sa ra : Option Addr) (W : World) (hno : ¬ okDeal F T N L sn rn) (HL : Laid W) : Calls Tryz.prog 14 [.agg #[.int .i64 F, .int .i64 T, .int .i64 N, .int .i64 L, .slice sa sn sc, .slice ra rn rc], .int .u8 ((xf : Nat) : Int), .int .u8 ((xk : Nat) : Int)].toArray W fun e w => e = .returned (.bool true) ∧ Below W.heap.size W w := by
 refine c_enter (args := [.agg #[.int .i64 F, .int .i64 T, .int .i64 N, .int .i64 L, .slice sa sn sc, .slice ra rn rc], .int .u8 ((xf : Nat) : Int), .int .u8 ((xk : Nat) : Int)]) Tryz.func14 rfl rfl rfl fun a hk => ?_
 have hs := Sat.start W [] (fun _ h => by cases h)
 refine wS (wR ?_)
 refine q_box (vs := [.int .i64 F, .int .i64 T, .int .i64 N, .int .i64 L, .slice sa sn sc, .slice ra rn rc]) hk hs rfl rfl rfl rfl fun b1 w a hk hs => ?_
 refine q_v hk (w_as rfl) fun a hk => ?_
 refine c_end (x_t (wS (wS (wR ?_))))
 refine q_v hk (w_fa rfl fq44_0 ty41) fun a hk => ?_
 refine q_v hk (w_ldA rfl ty41 (.blk (n := 4) (hs.mi 0 rfl) rfl) rfl) fun a hk => ?_
 refine q_v hk (w_fa rfl fq44_1 ty42) fun a hk => ?_
 refine q_v hk (w_ld1 rfl ty42 (.blk (n := 1) (hs.mi 0 rfl) rfl)) fun a hk => ?_
 refine q_v hk (w_fa rfl fq44_2 ty42) fun a hk => ?_
 refine q_v hk (w_ld1 rfl ty42 (.blk (n := 1) (hs.mi 0 rfl) rfl)) fun a hk => ?_
 refine q_call (caps := []) hk rfl rfl Tryz.func26 fo26 rfl rfl (large16_c F T N L sn rn sc rc sa ra _) ?_
 rintro _ w ⟨x2, rfl, hb, hlg⟩
 have hs := hs.below hb
 refine ⟨_, rfl, fun a hk => ?_⟩
 rcases Classical.em (0 < x2) with hc3 | hc3
 ·
  refine q_v hk (w_gt rfl rfl (decide_eq_true hc3)) fun a hk => ?_
  refine q_v hk (w_mv rfl) fun a hk => ?_
  refine q_skip hk rfl rfl fun a hk => ?_
  refine q_skip hk rfl rfl fun a hk => ?_
  refine q_skip hk rfl rfl fun a hk => ?_
  refine q_skip hk rfl rfl fun a hk => ?_
  refine q_v hk (w_pickT rfl rfl) fun a hk => ?_
  refine c_end (x_t ?_)
  refine c_T hk rfl ?_
  refine wS (wR ?_)
  refine q_call (caps := []) hk rfl rfl Tryz.func40 fo40 rfl rfl (alive17_c _ (HL.step hs.toBelow)) ?_
  rintro _ w ⟨rfl, hb⟩
  have hs := hs.below hb
  refine ⟨_, rfl, fun a hk => ?_⟩
  refine q_v hk (w_as rfl) fun a hk => ?_
  refine c_end (x_t ?_)
  refine (wpIn_ret (x_tr ?_))
  refine c_ret1 hk rfl rfl ?_
  exact ⟨rfl, hs.toBelow⟩
 ·
  obtain ⟨hs200, hr104⟩ := hlg hc3
  refine q_v hk (w_gt rfl rfl (decide_eq_false hc3)) fun a hk => ?_
  refine q_v hk (w_mv rfl) fun a hk => ?_
  refine q_v hk (w_fa rfl fq44_0 ty41) fun a hk => ?_
  refine q_v hk (w_fa rfl fq41_1 ty3) fun a hk => ?_
  refine q_v hk (w_ld1 rfl ty3 (.blk (n := 1) (hs.mi 0 rfl) rfl)) fun a hk => ?_
  rcases Classical.em (8 < T) with hc4 | hc4
  ·
   refine q_v hk (w_gt rfl rfl (decide_eq_true hc4)) fun a hk => ?_
   refine q_v hk (w_pickF rfl rfl) fun a hk => ?_
   refine c_end (x_t ?_)
   refine c_T hk rfl ?_
   refine wS (wR ?_)
   refine q_call (caps := []) hk rfl rfl Tryz.func40 fo40 rfl rfl (alive17_c _ (HL.step hs.toBelow)) ?_
   rintro _ w ⟨rfl, hb⟩
   have hs := hs.below hb
   refine ⟨_, rfl, fun a hk => ?_⟩
   refine q_v hk (w_as rfl) fun a hk => ?_
   refine c_end (x_t ?_)
   refine (wpIn_ret (x_tr ?_))
   refine c_ret1 hk rfl rfl ?_
   exact ⟨rfl, hs.toBelow⟩
  ·
   refine q_v hk (w_gt rfl rfl (decide_eq_false hc4)) fun a hk => ?_
   refine q_v hk (w_pickF rfl rfl) fun a hk => ?_
   refine c_end (x_t ?_)
   refine c_F hk rfl ?_
   refine (wpIn_skip (x_t ?_))
   refine wS (wR ?_)
   refine q_v hk (w_fa rfl fq44_0 ty41) fun a hk => ?_
   refine q_v hk (w_ldA rfl ty41 (.blk (n := 4) (hs.mi 0 rfl) rfl) rfl) fun a hk => ?_
   refine q_v hk (w_fa rfl fq44_1 ty42) fun a hk => ?_
   refine q_v hk (w_ld1 rfl ty42 (.blk (n := 1) (hs.mi 0 rfl) rfl)) fun a hk => ?_
   refine q_v hk (w_fa rfl fq44_2 ty42) fun a hk => ?_
   refine q_v hk (w_ld1 rfl ty42 (.blk (n := 1) (hs.mi 0 rfl) rfl)) fun a hk => ?_
   refine q_call (caps := []) hk rfl rfl Tryz.func27 fo27 rfl rfl (dealNo hno (by omega)) ?_
   rintro _ w ⟨q5, rfl, hq, hb⟩
   have hs := hs.below hb
   refine ⟨_, rfl, fun a hk => ?_⟩
   refine q_v hk (w_mv rfl) fun a hk => ?_
   refine q_v hk (w_ext rfl rfl) fun a hk => ?_
   refine q_v hk (w_ext rfl rfl) fun a hk => ?_
   refine q_v hk (w_as rfl) fun a hk => ?_
   refine q_v hk (w_as rfl) fun a hk => ?_
   refine c_end (x_t (wS (wS (wR ?_))))
   refine q_v hk (w_mv rfl) fun a hk => ?_
   refine q_v hk (w_ne rfl rfl (decide_eq_true hq)) fun a hk => ?_
   refine c_end (x_t ?_)
   refine c_T hk rfl ?_
   refine wS (wR ?_)
   refine q_call (caps := []) hk rfl rfl Tryz.func40 fo40 rfl rfl (alive17_c _ (HL.step hs.toBelow)) ?_
   rintro _ w ⟨rfl, hb⟩
   have hs := hs.below hb
   refine ⟨_, rfl, fun a hk => ?_⟩
   refine q_v hk (w_as rfl) fun a hk => ?_
   refine c_end (x_t ?_)
   refine (wpIn_ret (x_tr ?_))
   refine c_ret1 hk rfl rfl ?_
   exact ⟨rfl, hs.toBelow⟩
theorem lawRec_good (s : Bool) (th nn ln rn sc rc xf xk : Nat) (sa ra : Option Addr) (f fr : Nat → Nat) (W : World) (h0 : prErr (fid s) ((th : Nat) : Int) ((nn : Nat) : Int) ((ln : Nat) : Int) = 0) (HS : LstAt W 1 (.slice sa ln sc) ln (en bc f ln)) (hf : ∀ j, f j < 256) (HR : LstAt W 1 (.slice ra rn rc) rn (en bc fr rn)) (hfr : ∀ j, fr j < 256) (hr : 64 * (th - 1) * cn ((ln : Nat) : Int) ≤ rn) (HL : Laid W) (hx8 : xf ≤ 255) (hy8 : xk ≤ 255) : Calls Tryz.prog 14 [.agg #[.int .i64 (fid s), .int .i64 ((th : Nat) : Int), .int .i64 ((nn : Nat) : Int), .int .i64 ((ln : Nat) : Int), .slice sa ln sc, .slice ra rn rc], .int .u8 ((xf : Nat) : Int), .int .u8 ((xk : Nat) : Int)].toArray W fun e w => e = .returned (.bool true) ∧ Below W.heap.size W w := by
 obtain ⟨_, h1, h2, h3, h4, h5, h6⟩ := prErr_0 h0
 obtain ⟨ti, hi0⟩ : ∃ i, xf % nn = i := ⟨_, rfl⟩
 have hi : ti < nn := by rw [← hi0]; exact Nat.mod_lt _ (by omega)
 obtain ⟨nm, hnm⟩ : ∃ nm, min (th + xk % 4) nn = nm := ⟨_, rfl⟩
 refine c_enter (args := [.agg #[.int .i64 (fid s), .int .i64 ((th : Nat) : Int), .int .i64 ((nn : Nat) : Int), .int .i64 ((ln : Nat) : Int), .slice sa ln sc, .slice ra rn rc], .int .u8 ((xf : Nat) : Int), .int .u8 ((xk : Nat) : Int)]) Tryz.func14 rfl rfl rfl fun a hk => ?_
 have hs := Sat.start W [lst 1 (.slice sa ln sc) ln (en bc (fun i => f i) ln), lst 1 (.slice ra rn rc) rn (en bc (fun i => fr i) rn)] (okrc HS (okr1 HR))
 refine wS (wR ?_)
 refine q_box (vs := [.int .i64 (fid s), .int .i64 ((th : Nat) : Int), .int .i64 ((nn : Nat) : Int), .int .i64 ((ln : Nat) : Int), .slice sa ln sc, .slice ra rn rc]) hk hs rfl rfl rfl rfl fun b1 w a hk hs => ?_
 refine q_v hk (w_as rfl) fun a hk => ?_
 refine c_end (x_t (wS (wS (wR ?_))))
 refine q_v hk (w_fa rfl fq44_0 ty41) fun a hk => ?_
 refine q_v hk (w_ldA rfl ty41 (.blk (n := 4) (hs.mi 0 rfl) rfl) rfl) fun a hk => ?_
 refine q_v hk (w_fa rfl fq44_1 ty42) fun a hk => ?_
 refine q_v hk (w_ld1 rfl ty42 (.blk (n := 1) (hs.mi 0 rfl) rfl)) fun a hk => ?_
 refine q_v hk (w_fa rfl fq44_2 ty42) fun a hk => ?_
 refine q_v hk (w_ld1 rfl ty42 (.blk (n := 1) (hs.mi 0 rfl) rfl)) fun a hk => ?_
 refine q_call (caps := []) hk rfl rfl Tryz.func26 fo26 rfl rfl (large16_c (fid s) ((th : Nat) : Int) ((nn : Nat) : Int) ((ln : Nat) : Int) ln rn sc rc sa ra _) ?_
 rintro _ w ⟨x2, rfl, hb, hlg⟩
 have hs := hs.below hb
 refine ⟨_, rfl, fun a hk => ?_⟩
 rcases Classical.em (0 < x2) with hc3 | hc3
 ·
  refine q_v hk (w_gt rfl rfl (decide_eq_true hc3)) fun a hk => ?_
  refine q_v hk (w_mv rfl) fun a hk => ?_
  refine q_skip hk rfl rfl fun a hk => ?_
  refine q_skip hk rfl rfl fun a hk => ?_
  refine q_skip hk rfl rfl fun a hk => ?_
  refine q_skip hk rfl rfl fun a hk => ?_
  refine q_v hk (w_pickT rfl rfl) fun a hk => ?_
  refine c_end (x_t ?_)
  refine c_T hk rfl ?_
  refine wS (wR ?_)
  refine q_call (caps := []) hk rfl rfl Tryz.func40 fo40 rfl rfl (alive17_c _ (HL.step hs.toBelow)) ?_
  rintro _ w ⟨rfl, hb⟩
  have hs := hs.below hb
  refine ⟨_, rfl, fun a hk => ?_⟩
  refine q_v hk (w_as rfl) fun a hk => ?_
  refine c_end (x_t ?_)
  refine (wpIn_ret (x_tr ?_))
  refine c_ret1 hk rfl rfl ?_
  exact ⟨rfl, hs.toBelow⟩
 ·
  obtain ⟨hs200, hr104⟩ := hlg hc3
  refine q_v hk (w_gt rfl rfl (decide_eq_false hc3)) fun a hk => ?_
  refine q_v hk (w_mv rfl) fun a hk => ?_
  refine q_v hk (w_fa rfl fq44_0 ty41) fun a hk => ?_
  refine q_v hk (w_fa rfl fq41_1 ty3) fun a hk => ?_
  refine q_v hk (w_ld1 rfl ty3 (.blk (n := 1) (hs.mi 0 rfl) rfl)) fun a hk => ?_
  rcases Classical.em (8 < ((th : Nat) : Int)) with hc4 | hc4
  ·
   refine q_v hk (w_gt rfl rfl (decide_eq_true hc4)) fun a hk => ?_
   refine q_v hk (w_pickF rfl rfl) fun a hk => ?_
   refine c_end (x_t ?_)
   refine c_T hk rfl ?_
   refine wS (wR ?_)
   refine q_call (caps := []) hk rfl rfl Tryz.func40 fo40 rfl rfl (alive17_c _ (HL.step hs.toBelow)) ?_
   rintro _ w ⟨rfl, hb⟩
   have hs := hs.below hb
   refine ⟨_, rfl, fun a hk => ?_⟩
   refine q_v hk (w_as rfl) fun a hk => ?_
   refine c_end (x_t ?_)
   refine (wpIn_ret (x_tr ?_))
   refine c_ret1 hk rfl rfl ?_
   exact ⟨rfl, hs.toBelow⟩
  ·
   refine q_v hk (w_gt rfl rfl (decide_eq_false hc4)) fun a hk => ?_
   refine q_v hk (w_pickF rfl rfl) fun a hk => ?_
   refine c_end (x_t ?_)
   refine c_F hk rfl ?_
   refine (wpIn_skip (x_t ?_))
   refine wS (wR ?_)
   refine q_v hk (w_fa rfl fq44_0 ty41) fun a hk => ?_
   refine q_v hk (w_ldA rfl ty41 (.blk (n := 4) (hs.mi 0 rfl) rfl) rfl) fun a hk => ?_
   refine q_v hk (w_fa rfl fq44_1 ty42) fun a hk => ?_
   refine q_v hk (w_ld1 rfl ty42 (.blk (n := 1) (hs.mi 0 rfl) rfl)) fun a hk => ?_
   refine q_v hk (w_fa rfl fq44_2 ty42) fun a hk => ?_
   refine q_v hk (w_ld1 rfl ty42 (.blk (n := 1) (hs.mi 0 rfl) rfl)) fun a hk => ?_
   refine q_call (caps := []) hk rfl rfl Tryz.func27 fo27 rfl rfl (dealW h0 (hs.ri 0 rfl) hf (hs.ri 1 rfl) hfr hr (by omega)) ?_
   rintro _ w ⟨S5, F6, a7, c8, hD, rfl, hS⟩
   have hs := own_frz (hs.call1 hS)
   clear hS
   have hcap := share_cap (HasR.of (by simp) : HasR (shareR a7 nn c8 S5) _) hs
   have hc7 := cn_200 hs200
   refine ⟨_, rfl, fun a hk => ?_⟩
   refine q_v hk (w_mv rfl) fun a hk => ?_
   refine q_v hk (w_ext rfl rfl) fun a hk => ?_
   refine q_v hk (w_ext rfl rfl) fun a hk => ?_
   refine q_v hk (w_as rfl) fun a hk => ?_
   refine q_v hk (w_as rfl) fun a hk => ?_
   refine c_end (x_t (wS (wS (wR ?_))))
   refine q_v hk (w_mv rfl) fun a hk => ?_
   refine q_v hk (w_ne rfl rfl (decide_eq_false (by decide))) fun a hk => ?_
   refine c_end (x_t ?_)
   refine c_F hk rfl ?_
   refine (wpIn_skip (x_t ?_))
   refine wS (wR ?_)
   refine q_v hk (w_mv rfl) fun a hk => ?_
   refine q_v hk (w_conv rfl Tryz.underlying5 Tryz.underlying3 (wr64 (by omega) (by omega))) fun a hk => ?_
   refine q_v hk (w_mv rfl) fun a hk => ?_
   refine q_v hk (w_len rfl Tryz.underlying22) fun a hk => ?_
   refine q_v hk (w_rem (r := ((ti : Nat) : Int)) rfl rfl (by omega) (by rw [wmd (by omega), ← hi0]; exact (Int.natCast_emod xf nn).symm)) fun a hk => ?_
   refine q_v hk (w_as rfl) fun a hk => ?_
   refine c_end (x_t (wS ?_))
   refine d_begin _ 9 (by kernel_rfl) rfl hs okL.nil fun w hs hL => ?_
   refine d_w 0 1 hk hL rfl (fun w hL => w_mv rfl) fun a hk => ?_
   refine d_w 1 3 hk hL rfl (fun w hL => w_mv rfl) fun a hk => ?_
   refine d_w 2 7 hk hL rfl (fun w hL => w_slc (l := ti) (h := nn) rfl rfl rfl Tryz.underlying22 ty53 rfl rfl (by omega) (by omega) (by omega) (by omega) (by omega)) fun a hk => ?_
   refine d_w 3 15 hk hL rfl (fun w hL => w_mv rfl) fun a hk => ?_
   refine d_w 4 31 hk hL rfl (fun w hL => w_mv rfl) fun a hk => ?_
   refine d_w 5 63 hk hL rfl (fun w hL => w_slc_eq (w_slc (l := 0) (h := ti) rfl rfl rfl Tryz.underlying22 ty53 rfl rfl (by omega) (by omega) (by omega) (by omega) (by omega)) sla_zero (Nat.sub_zero _) (Nat.sub_zero _)) fun a hk => ?_
   refine d_1 6 127 rfl (by kernel_rfl) fun K hK => ?_
   refine q_bsl (els := [.tmp 49, .tmp 52]) (cs := [.slice (sla a7 c8 ti 5) (nn - ti) (c8 - ti), .slice a7 ti c8]) hk hs rfl Tryz.underlying116 ty22 zr22 rfl rfl rfl rfl rfl rfl rfl fun b1_6 w a hk hs => ?_
   have hL : okL [] w := okL.nil
   refine c_end (x_t (hK _ _ hL ?_))
   clear hK K
   refine d_1 7 255 rfl (by kernel_rfl) fun K hK => ?_
   refine q_call (caps := []) hk rfl rfl Tryz.func38 fo38 rfl rfl (concat_c nn c8 ti b1_6 a7 S5 _ ((HasR.of (by simp) : HasR (shareR a7 nn c8 S5) _).at_ hs) (hs.mi 0 rfl) hi (by omega)) ?_
   rintro _ w ⟨a1_7, c1_7b, rfl, hS⟩
   have hs := hs.call1 hS
   clear hS
   refine ⟨_, rfl, fun a hk => ?_⟩
   have hL : okL [] w := okL.nil
   refine c_end (x_t (hK _ _ hL ?_))
   clear hK K
   refine d_w 8 511 hk hL rfl (fun w hL => w_as rfl) fun a hk => ?_
   refine d_end (by kernel_rfl) ?_
   refine (x_t ?_)
   refine wS (wR ?_)
   refine q_v hk (w_mv rfl) fun a hk => ?_
   refine q_call (caps := []) hk rfl rfl Tryz.func53 fo53 rfl rfl (rev_m nn c1_7b a1_7 (rot S5 nn ti) _ hs (by omega) (by omega)) ?_
   rintro _ w ⟨v9, rfl, hs⟩
   have hs := hs.rw0 (show _ = row 53 5 (.slice a1_7 nn c1_7b) nn (en shc (fun i => S5 (rvI nn ti i)) nn) from rfl)
   refine ⟨_, rfl, fun a hk => ?_⟩
   refine c_end (x_t (wS ?_))
   have hcap2 : nn ≤ c1_7b := by obtain ⟨_, _, he, hc, _⟩ := (row_lst (hs.mi 0 rfl)).at_; cases he; exact hc
   refine wR ?_
   refine q_v hk (w_fa rfl fq44_0 ty41) fun a hk => ?_
   refine q_v hk (w_fa rfl fq41_1 ty3) fun a hk => ?_
   refine q_v hk (w_ld1 rfl ty3 (.blk (n := 1) (hs.mi 2 rfl) rfl)) fun a hk => ?_
   refine q_v hk (w_mv rfl) fun a hk => ?_
   refine q_v hk (w_rem (r := ((xk % 4 : Nat) : Int)) rfl rfl (by omega) (by rw [wmd (by omega)]; omega)) fun a hk => ?_
   refine q_v hk (w_conv rfl Tryz.underlying5 Tryz.underlying3 (wr64 (by omega) (by omega))) fun a hk => ?_
   refine q_v hk (w_add rfl rfl (wr64 (by omega) (by omega))) fun a hk => ?_
   refine q_v hk (w_mv rfl) fun a hk => ?_
   refine q_v hk (w_len rfl Tryz.underlying22) fun a hk => ?_
   refine q_v hk (w_min (r := ((nm : Nat) : Int)) rfl rfl (by omega)) fun a hk => ?_
   refine q_v hk (w_as rfl) fun a hk => ?_
   refine c_end (x_t (wS (wR ?_)))
   refine q_v hk (w_mv rfl) fun a hk => ?_
   refine q_v hk (w_mv rfl) fun a hk => ?_
   refine q_v hk (w_slc_eq (w_slc (l := 0) (h := nm) rfl rfl rfl Tryz.underlying22 ty53 rfl rfl (by omega) (by omega) (by omega) (by omega) (by omega)) sla_zero (Nat.sub_zero _) (Nat.sub_zero _)) fun a hk => ?_
   refine q_call (caps := []) hk rfl rfl Tryz.func44 fo44 rfl rfl (rec1 hD hf hi (by omega) (by omega) (by omega) (by omega) hc7 (by omega) (by omega) (take_ok (sel_ok (σ := rvI nn ti) (hs.mi 0 rfl) ((HasR.of (by simp) : HasR (shareR a7 nn c8 S5) _).at_ hs) (rvI_lt hi)) (by omega)) (HL.step hs.toBelow)) ?_
   rintro _ w ⟨a10, k11, c12, rfl, hS⟩
   have hs := hs.call1 hS
   clear hS
   refine ⟨_, rfl, fun a hk => ?_⟩
   refine q_v hk (w_mv rfl) fun a hk => ?_
   refine q_v hk (w_ext rfl rfl) fun a hk => ?_
   refine q_v hk (w_ext rfl rfl) fun a hk => ?_
   refine q_v hk (w_as rfl) fun a hk => ?_
   refine q_v hk (w_as rfl) fun a hk => ?_
   refine c_end (x_t (wS (wR ?_)))
   refine q_call (caps := []) hk rfl rfl Tryz.func40 fo40 rfl rfl (alive17_c _ (HL.step hs.toBelow)) ?_
   rintro _ w ⟨rfl, hb⟩
   have hs := hs.below hb
   refine ⟨_, rfl, fun a hk => ?_⟩
   refine q_v hk (w_mv rfl) fun a hk => ?_
   refine q_v hk (w_mv rfl) fun a hk => ?_
   refine q_v hk (w_eq rfl rfl (decide_eq_true (by decide))) fun a hk => ?_
   refine q_v hk (w_pickT rfl rfl) fun a hk => ?_
   refine q_v hk (w_mv rfl) fun a hk => ?_
   refine q_v hk (w_mv rfl) fun a hk => ?_
   refine q_v hk (w_fa rfl fq44_1 ty42) fun a hk => ?_
   refine q_v hk (w_ld1 rfl ty42 (.blk (n := 1) (hs.mi 3 rfl) rfl)) fun a hk => ?_
   refine q_call (caps := []) hk rfl rfl Tryz.func46 fo46 rfl rfl (bytesEqQ _ a10 sa k11 c12 ln sc _ _ (row_lst (hs.mi 0 rfl)) (sec_el (hs.ri 1 rfl)) rfl) ?_
   rintro _ _ ⟨rfl, rfl⟩
   refine ⟨_, rfl, fun a hk => ?_⟩
   refine q_v hk (w_pickT rfl rfl) fun a hk => ?_
   refine q_v hk (w_as rfl) fun a hk => ?_
   refine c_end (x_t ?_)
   refine (wpIn_ret ?_)
   refine c_ret1 hk rfl rfl ?_
   exact ⟨rfl, hs.toBelow⟩
theorem lawRec_c (W : World) (F T N L : Int) (sa : Option Addr) (sn sc : Nat) (f : Nat → Nat) (ra : Option Addr) (rn rc : Nat) (fr : Nat → Nat) (xf xk : Nat) (hf : ∀ j, f j < 256) (HS : LstAt W 1 (.slice sa sn sc) sn (en bc f sn)) (hfr : ∀ j, fr j < 256) (HR : LstAt W 1 (.slice ra rn rc) rn (en bc fr rn)) (hxf : xf < 256) (hxk : xk < 256) (HL : Laid W) :
    Calls Tryz.prog 14 #[.agg #[.int .i64 F, .int .i64 T, .int .i64 N, .int .i64 L, .slice sa sn sc, .slice ra rn rc], .int .u8 ((xf : Nat) : Int), .int .u8 ((xk : Nat) : Int)] W fun e w => e = .returned (.bool true) ∧ Below W.heap.size W w := by
  by_cases h : okDeal F T N L sn rn
  · obtain ⟨s, th, nn, rfl, rfl, rfl, rfl, h0, hr⟩ := okDeal_nat h
    exact lawRec_good s th nn sn rn sc rc xf xk sa ra f fr W h0 HS hf HR hfr hr HL (by omega) (by omega)
  · exact lawRec_bad F T N L sn rn sc rc xf xk sa ra W h HL
end Go.Proofs.YtdnkkbmpefhbjaaGreatDoor
namespace Go.Proofs.YtdnkkbmpefhbjaaGreatDoor
set_option linter.all false
open Go Go.ChangeShapes Go.WideShapes Go.ChangeAt Go.WideMaps Go.WideElems Go.RowKit
theorem own : ownKnob Tryz.prog.godebug = none := by kernel_rfl
theorem laidOut : laidOutB Tryz.prog = true := by kernel_rfl
theorem gFields : Tryz.prog.globalNamed "sharecore/field.fields" = some 0 := by kernel_rfl
theorem tFields : (Tryz.prog.globals[0]?).map (·.type) = some 168 := by kernel_rfl
theorem cells64 : Tryz.prog.cellsOf 46 = 1 := by kernel_rfl
theorem cellsInt : Tryz.prog.cellsOf 3 = 1 := by kernel_rfl
theorem cellsVec : Tryz.prog.cellsOf 47 = 4 := by kernel_rfl
theorem cellsElem : Tryz.prog.cellsOf 56 = 4 := by kernel_rfl
theorem cellsField : Tryz.prog.cellsOf 120 = 14 := by kernel_rfl
theorem cellsFields : Tryz.prog.cellsOf 168 = 28 := by kernel_rfl
section
variable {H : Type} {enc : TypeId × Value → H} {w : World} {base : Nat} {spare : Nat → Bool} {held : Bool} {n : Nat} {cs : List Value} {ps : List MemPlace}
set_option maxRecDepth 100000 in
theorem four_of {T : TypeId} {d : DataW H} (hT : Tryz.prog.underlying T = some (.array 4 46)) (hc : Tryz.prog.cellsOf T = 4) (h : DataW.trod enc Tryz.prog w base spare held n T cs = some (d, ps)) :
    ∃ a0 a1 a2 a3 : Int, cs = [.int .u64 a0, .int .u64 a1, .int .u64 a2, .int .u64 a3] ∧ d = .agg [.lit (.int .u64 a0), .lit (.int .u64 a1), .lit (.int .u64 a2), .lit (.int .u64 a3)] ∧
      (Lit.int .u64 a0).wf = true ∧ (Lit.int .u64 a1).wf = true ∧ (Lit.int .u64 a2).wf = true ∧ (Lit.int .u64 a3).wf = true := by
  obtain ⟨xs, m, rfl, hx, hlen, hn, hel⟩ := DataW.trod_array hT h
  rw [hc] at hlen
  match cs, hlen with
  | [c0, c1, c2, c3], _ =>
    match xs, hn with
    | [x0, x1, x2, x3], _ =>
      have e0 := hel 0 (by omega)
      have e1 := hel 1 (by omega)
      have e2 := hel 2 (by omega)
      have e3 := hel 3 (by omega)
      rw [cells64] at e0 e1 e2 e3
      simp only [Nat.mul_one, List.drop_zero, List.drop_succ_cons, List.take_succ_cons, List.take_zero, List.getElem?_cons_zero, List.getElem?_cons_succ] at e0 e1 e2 e3
      obtain ⟨k0, f0, g0, w0⟩ := DataW.trod_int Tryz.underlying46 e0
      obtain ⟨k1, f1, g1, w1⟩ := DataW.trod_int Tryz.underlying46 e1
      obtain ⟨k2, f2, g2, w2⟩ := DataW.trod_int Tryz.underlying46 e2
      obtain ⟨k3, f3, g3, w3⟩ := DataW.trod_int Tryz.underlying46 e3
      subst g0 g1 g2 g3
      simp only [List.cons.injEq, and_true] at f0 f1 f2 f3
      subst f0 f1 f2 f3
      simp only [Prod.mk.injEq] at hx
      exact ⟨k0, k1, k2, k3, rfl, hx.1, w0, w1, w2, w3⟩
set_option maxRecDepth 100000 in
theorem field_of {i i' p0 p1 p2 p3 v o0 o1 o2 o3 s0 s1 s2 s3 : Int} (h : DataW.trod enc Tryz.prog w base spare held n 120 cs = some (.agg [.lit (.int .i64 i), .agg [.lit (.int .u64 p0), .lit (.int .u64 p1), .lit (.int .u64 p2), .lit (.int .u64 p3)], .lit (.int .u64 v), .agg [.lit (.int .u64 o0), .lit (.int .u64 o1), .lit (.int .u64 o2), .lit (.int .u64 o3)], .agg [.lit (.int .u64 s0), .lit (.int .u64 s1), .lit (.int .u64 s2), .lit (.int .u64 s3)]], ps)) (_hi : i' = i) :
    cs = [.int .i64 i, .int .u64 p0, .int .u64 p1, .int .u64 p2, .int .u64 p3, .int .u64 v, .int .u64 o0, .int .u64 o1, .int .u64 o2, .int .u64 o3, .int .u64 s0, .int .u64 s1, .int .u64 s2, .int .u64 s3] := by
  obtain ⟨xs, m, rfl, hx, hlen, hn, hel⟩ := DataW.trod_struct Tryz.underlying120 h
  rw [cellsField] at hlen
  match cs, hlen with
  | [c0, c1, c2, c3, c4, c5, c6, c7, c8, c9, c10, c11, c12, c13], _ =>
    match xs, hn with
    | [x0, x1, x2, x3, x4], _ =>
      have e0 := hel 0 { name := "ID", type := 3, offset := 0, embedded := false, tag := "", pkgPath := "", byteOffset := 0 } rfl
      have e1 := hel 1 { name := "Modulus", type := 47, offset := 1, embedded := false, tag := "", pkgPath := "", byteOffset := 8 } rfl
      have e2 := hel 2 { name := "Inverse", type := 46, offset := 5, embedded := false, tag := "", pkgPath := "", byteOffset := 40 } rfl
      have e3 := hel 3 { name := "One", type := 56, offset := 6, embedded := false, tag := "", pkgPath := "", byteOffset := 48 } rfl
      have e4 := hel 4 { name := "Square", type := 47, offset := 10, embedded := false, tag := "", pkgPath := "", byteOffset := 80 } rfl
      simp only [cells64, cellsInt, cellsVec, cellsElem, List.drop_zero, List.drop_succ_cons, List.take_succ_cons, List.take_zero, List.getElem?_cons_zero, List.getElem?_cons_succ] at e0 e1 e2 e3 e4
      obtain ⟨k0, f0, g0, _⟩ := DataW.trod_int Tryz.underlying3 e0
      obtain ⟨k2, f2, g2, _⟩ := DataW.trod_int Tryz.underlying46 e2
      obtain ⟨x1, r1⟩ := x1
      obtain ⟨x3, r3⟩ := x3
      obtain ⟨x4, r4⟩ := x4
      obtain ⟨a0, a1, a2, a3, f1, g1, _⟩ := four_of Tryz.underlying47 cellsVec e1
      obtain ⟨b0, b1, b2, b3, f3, g3, _⟩ := four_of Tryz.underlying56 cellsElem e3
      obtain ⟨d0, d1, d2, d3, f4, g4, _⟩ := four_of Tryz.underlying47 cellsVec e4
      subst g0 g1 g2 g3 g4
      simp only [List.cons.injEq, and_true] at f0 f2
      simp only [List.cons.injEq, and_true] at f1
      simp only [List.cons.injEq, and_true] at f3
      simp only [List.cons.injEq, and_true] at f4
      simp only [Prod.mk.injEq, List.map_cons, List.map_nil, DataW.agg.injEq, List.cons.injEq, DataW.lit.injEq, Lit.int.injEq, true_and, and_true] at hx
      obtain ⟨⟨rfl, ⟨rfl, rfl, rfl, rfl⟩, rfl, ⟨rfl, rfl, rfl, rfl⟩, rfl, rfl, rfl, rfl⟩, _⟩ := hx
      obtain ⟨rfl, rfl, rfl, rfl⟩ := f1
      obtain ⟨rfl, rfl, rfl, rfl⟩ := f3
      obtain ⟨rfl, rfl, rfl, rfl⟩ := f4
      subst f0 f2
      rfl
end
theorem of_laid {W : World} (h : laidMetH Tryz.prog [("sharecore/field.fields", Rows.laid_sharecore_field_fields)] W) : Laid W := by
  rw [MakeChecks.laidMetH_plain _ _ _ (by kernel_rfl)] at h
  obtain ⟨ps, ⟨g0, t0, cs0, f0, p0, q0, hg0, ht0, hv0, hd0, _, _⟩, _, _⟩ := h
  obtain rfl := Option.some.inj (gFields.symm.trans hg0)
  obtain rfl := Option.some.inj (tFields.symm.trans ht0)
  have key : cs0.toList = fieldCells.toList := by
    obtain ⟨xs, m, rfl, hx, hlen, hn, hel⟩ := DataW.trod_array Tryz.underlying168 hd0
    rw [cellsFields] at hlen
    match xs, hn with
    | [x0, x1], _ =>
      have e0 := hel 0 (by omega)
      have e1 := hel 1 (by omega)
      simp only [cellsField, Nat.zero_mul, Nat.one_mul, List.drop_zero, List.getElem?_cons_zero, List.getElem?_cons_succ] at e0 e1
      obtain ⟨x0, r0⟩ := x0
      obtain ⟨x1, r1⟩ := x1
      unfold Rows.laid_sharecore_field_fields at hx
      simp only [Prod.mk.injEq, List.map_cons, List.map_nil, DataW.agg.injEq, List.cons.injEq, and_true] at hx
      obtain ⟨⟨rfl, rfl⟩, _⟩ := hx
      have k0 := field_of e0 rfl
      have k1 := field_of e1 rfl
      rw [List.take_of_length_le (by rw [List.length_drop, hlen]; omega)] at k1
      rw [← List.take_append_drop 14 cs0.toList, k0, k1]
      rfl
  have key' : cs0 = fieldCells := by rw [← Array.toArray_toList (xs := cs0), key]
  intro j v hv
  rw [World.var?_cell hg0 hv0 j, key']
  exact hv
theorem lt_of {H : Type} {enc : TypeId × Value → H} {w : World} {spare : Nat → Bool} {held : Bool} {T : TypeId} {v : Value} {d : DataW H} {p : List MemPlace} (h : DataW.Trod enc Tryz.prog w 0 spare held T v d p) : ∀ x ∈ p, x.block < w.heap.size := by
  obtain ⟨m, hm⟩ := h
  exact DataW.trod_lt m _ _ _ hm
end Go.Proofs.YtdnkkbmpefhbjaaGreatDoor
namespace Go.Proofs.YtdnkkbmpefhbjaaGreatDoor
set_option linter.all false
open Go Go.ChangeShapes Go.WideShapes Go.ChangeAt Go.WideMaps Go.WideElems Go.RowKit
section
variable {H : Type} {enc : TypeId × Value → H} {w : World} {held : Bool} {P : Program}
theorem cells_at {b : Nat} {q : Addr} {n : Nat} {cs : List Value} (h : w.cells? b q n = some cs) : cs.length = n ∧ ∀ j u, cs[j]? = some u → w.cell? (q.add j) = some u := by
  obtain ⟨_, h1, h2⟩ := World.cells?_some h
  refine ⟨h1, fun j u hj => ?_⟩
  rw [h2 j (by have := (List.getElem?_eq_some_iff.1 hj).1; omega), hj]
/-- A slice whose elements are each read as the cells of something. -/
theorem open_lst {α : Type} {c : α → List Value} {sz : Nat} {φ : α → Prop} {T te : TypeId} (hT : P.underlying T = some (.slice te)) (hc : P.cellsOf te = sz) (hs : 0 < sz) (hlen : ∀ x, (c x).length = sz) (d0 : α)
    (hel : ∀ fuel cs d p, DataW.trod enc P w 0 (fun _ => true) held fuel te cs = some (d, p) → ∃ x, φ x ∧ cs = c x) {a : Option Addr} {n cap : Nat} {d : DataW H} {p : List MemPlace}
    (h : DataW.Trod enc P w 0 (fun _ => true) held T (.slice a n cap) d p) : ∃ f : Nat → α, (∀ i, i < n → φ (f i)) ∧ LstAt w sz (.slice a n cap) n (en c f n) := by
  subst hc
  obtain ⟨fuel, hf⟩ := h
  rcases DataW.trod_slice hT hf with ⟨e, _⟩ | ⟨ad, len, cap', elems, rest, m, _, e, _, _, hl, _, hel1, hel2, _⟩
  · have e' : ([Value.slice a n cap] : List Value) = [.slice none 0 0] := e
    simp only [List.cons.injEq, Value.slice.injEq, and_true] at e'
    obtain ⟨rfl, rfl, rfl⟩ := e'
    exact ⟨fun _ => d0, fun i hi => (by omega), ⟨by simp [en], none, 0, rfl, Nat.le_refl _, fun _ => ⟨rfl, rfl⟩, fun ad h => by cases h⟩⟩
  · have e' : ([Value.slice a n cap] : List Value) = [.slice (some ad) len cap'] := e
    simp only [List.cons.injEq, Value.slice.injEq, and_true] at e'
    obtain ⟨rfl, rfl, rfl⟩ := e'
    have key : ∀ i, ∃ x, i < n → φ x ∧ ∀ j u, (c x)[j]? = some u → w.cell? ((ad.add (i * P.cellsOf te)).add j) = some u := by
      intro i
      by_cases hi : i < n
      · have h1 := hel2 i hi
        cases hcs : w.cells? 0 (ad.add (i * P.cellsOf te)) (P.cellsOf te) with
        | none =>
          rw [hcs, Option.bind_none, List.getElem?_eq_getElem (by omega)] at h1
          cases h1
        | some cs =>
          rw [hcs, Option.bind_some, List.getElem?_eq_getElem (by omega)] at h1
          obtain ⟨x, hx, rfl⟩ := hel _ _ _ _ h1
          exact ⟨x, fun _ => ⟨hx, (cells_at hcs).2⟩⟩
      · exact ⟨d0, fun h => absurd h hi⟩
    refine ⟨fun i => Classical.choose (key i), fun i hi => (Classical.choose_spec (key i) hi).1, ?_⟩
    have hcell : ∀ i, i < n → ∀ j u, (c (Classical.choose (key i)))[j]? = some u → w.cell? ((ad.add (i * P.cellsOf te)).add j) = some u := fun i hi => (Classical.choose_spec (key i) hi).2
    generalize hF : (fun i => Classical.choose (key i)) = f
    have hcell' : ∀ i, i < n → ∀ j u, (c (f i))[j]? = some u → w.cell? ((ad.add (i * P.cellsOf te)).add j) = some u := by subst hF; exact hcell
    clear hcell
    refine ⟨en_len hlen, some ad, cap, rfl, hl, (fun h => by cases h), fun q hq hn => ?_⟩
    cases hq
    have h0 : w.cell? ad = some ((c (f 0))[0]'(by rw [hlen]; exact hs)) := by
      have := hcell' 0 hn 0 _ (List.getElem?_eq_getElem (by rw [hlen]; exact hs))
      rw [Nat.zero_mul] at this
      exact this
    have hspot : ad.spot = none := by simpa using World.cell?_spot h0
    refine ⟨hspot, World.block_lt_of_cell? w _ h0, fun j u hj => ?_⟩
    have hjl := (List.getElem?_eq_some_iff.1 hj).1
    rw [en_len hlen] at hjl
    have hi : j / P.cellsOf te < n := (Nat.div_lt_iff_lt_mul hs).2 hjl
    have hch := en_chunk (c := c) (f := f) hlen hi
    have h2 := congrArg (fun l => l[j % P.cellsOf te]?) hch
    simp only [List.getElem?_take, List.getElem?_drop] at h2
    rw [if_pos (Nat.mod_lt _ hs), show j / P.cellsOf te * P.cellsOf te + j % P.cellsOf te = j by rw [Nat.mul_comm]; exact Nat.div_add_mod j _, hj] at h2
    have := hcell' _ hi _ u h2.symm
    rw [add_add hspot, show j / P.cellsOf te * P.cellsOf te + j % P.cellsOf te = j by rw [Nat.mul_comm]; exact Nat.div_add_mod j _] at this
    exact this
end
end Go.Proofs.YtdnkkbmpefhbjaaGreatDoor
namespace Go.Proofs.YtdnkkbmpefhbjaaGreatDoor
set_option linter.all false
open Go Go.ChangeShapes Go.WideShapes Go.ChangeAt Go.WideMaps Go.WideElems Go.RowKit
theorem cellsParams : Tryz.prog.cellsOf 41 = 4 := by kernel_rfl
theorem cellsSecret : Tryz.prog.cellsOf 44 = 6 := by kernel_rfl
theorem cellsByte : Tryz.prog.cellsOf 5 = 1 := by kernel_rfl
theorem cellsBytes : Tryz.prog.cellsOf 42 = 1 := by kernel_rfl
theorem wf_n8 {a : Int} (h : (Lit.int .u8 a).wf = true) : ∃ n : Nat, a = (n : Int) ∧ n < 256 := by
  have hb := bounds_u8 h
  exact ⟨a.toNat, by omega, by omega⟩
section
variable {H : Type} {enc : TypeId × Value → H} {w : World} {held : Bool} {P : Program}
theorem open_bytef {a : Option Addr} {n cap : Nat} {d : DataW H} {p : List MemPlace} (h : DataW.Trod enc Tryz.prog w 0 (fun _ => true) held 42 (.slice a n cap) d p) :
    ∃ f : Nat → Nat, (∀ j, f j < 256) ∧ LstAt w 1 (.slice a n cap) n (en bc f n) := by
  obtain ⟨f, hf, hL⟩ := open_lst (c := bc) (φ := fun x => x < 256) Tryz.underlying42 cellsByte (by decide) bc_len 0 (fun fuel cs d p hf => by
    obtain ⟨k, hk, _, hw⟩ := DataW.trod_int Tryz.underlying5 hf
    have hb := bounds_u8 hw
    exact ⟨k.toNat, by omega, by rw [hk]; unfold bc; rw [Int.toNat_of_nonneg hb.1]⟩) h
  refine ⟨fun j => if j < n then f j else 0, fun j => ?_, ?_⟩
  · show (if j < n then f j else 0) < 256
    by_cases hj : j < n
    · rw [if_pos hj]; exact hf j hj
    · rw [if_neg hj]; decide
  · have e : en bc (fun j => if j < n then f j else 0) n = en bc f n := en_congr fun i hi => if_pos hi
    rw [e]; exact hL
set_option maxRecDepth 100000 in
theorem open_secret {b0 : Nat} {r : Reach} {v : Value} {d : DataW H} {p : List MemPlace} (hv : Value.okWide Tryz.prog w r b0 44 v) (h : DataW.Trod enc Tryz.prog w 0 (fun _ => true) held 44 v d p) :
    ∃ (F T N L : Int) (a : Option Addr) (n c : Nat) (f : Nat → Nat) (ra : Option Addr) (rn rc : Nat) (fr : Nat → Nat), v = .agg #[.int .i64 F, .int .i64 T, .int .i64 N, .int .i64 L, .slice a n c, .slice ra rn rc] ∧ (∀ j, f j < 256) ∧ LstAt w 1 (.slice a n c) n (en bc f n) ∧ (∀ j, fr j < 256) ∧ LstAt w 1 (.slice ra rn rc) rn (en bc fr rn) := by
  have hk : ∃ cs, v = .agg cs := by
    simp only [Value.okWide, Tryz.underlying44] at hv
    obtain ⟨cs, h1, _⟩ := hv
    exact ⟨cs, h1⟩
  obtain ⟨cs, rfl⟩ := hk
  obtain ⟨fuel, hf⟩ := h
  have hf' : DataW.trod enc Tryz.prog w 0 (fun _ => true) held fuel 44 cs.toList = some (d, p) := hf
  obtain ⟨xs, m, rfl, hx, hlen, hn, hel⟩ := DataW.trod_struct Tryz.underlying44 hf'
  rw [cellsSecret] at hlen
  have hcs : cs = cs.toList.toArray := by simp
  generalize cs.toList = l at *
  subst hcs
  match l, hlen with
  | [c0, c1, c2, c3, c4, c5], _ =>
    match xs, hn with
    | [x0, x1, x2], _ =>
      have e0 := hel 0 { name := "Params", type := 41, offset := 0, embedded := false, tag := "", pkgPath := "", byteOffset := 0 } rfl
      have e1 := hel 1 { name := "Secret", type := 42, offset := 4, embedded := false, tag := "", pkgPath := "", byteOffset := 32 } rfl
      have e2 := hel 2 { name := "Random", type := 42, offset := 5, embedded := false, tag := "", pkgPath := "", byteOffset := 56 } rfl
      simp only [cellsParams, cellsBytes, List.drop_zero, List.drop_succ_cons, List.take_succ_cons, List.take_zero, List.getElem?_cons_zero, List.getElem?_cons_succ] at e0 e1 e2
      obtain ⟨ys, m2, _, hx2, hlen2, hn2, hel2⟩ := DataW.trod_struct Tryz.underlying41 e0
      match ys, hn2 with
      | [y0, y1, y2, y3], _ =>
        have g0 := hel2 0 { name := "Field", type := 3, offset := 0, embedded := false, tag := "", pkgPath := "", byteOffset := 0 } rfl
        have g1 := hel2 1 { name := "Threshold", type := 3, offset := 1, embedded := false, tag := "", pkgPath := "", byteOffset := 8 } rfl
        have g2 := hel2 2 { name := "Shares", type := 3, offset := 2, embedded := false, tag := "", pkgPath := "", byteOffset := 16 } rfl
        have g3 := hel2 3 { name := "Length", type := 3, offset := 3, embedded := false, tag := "", pkgPath := "", byteOffset := 24 } rfl
        simp only [cellsInt, List.drop_zero, List.drop_succ_cons, List.take_succ_cons, List.take_zero, List.getElem?_cons_zero, List.getElem?_cons_succ] at g0 g1 g2 g3
        obtain ⟨F, f0, _, _⟩ := DataW.trod_int Tryz.underlying3 g0
        obtain ⟨T, f1, _, _⟩ := DataW.trod_int Tryz.underlying3 g1
        obtain ⟨I, f2, _, _⟩ := DataW.trod_int Tryz.underlying3 g2
        obtain ⟨L, f3, _, _⟩ := DataW.trod_int Tryz.underlying3 g3
        simp only [List.cons.injEq, and_true] at f0 f1 f2 f3
        subst f0 f1 f2 f3
        obtain ⟨x1, r1⟩ := x1
        obtain ⟨x2, r2⟩ := x2
        have hs1 : ∃ a n c, c4 = .slice a n c := by
          rcases DataW.trod_slice Tryz.underlying42 e1 with ⟨e, _⟩ | ⟨ad, len, cap', elems, rest, m, _, e, _⟩
          · simp only [List.cons.injEq, and_true] at e; exact ⟨_, _, _, e⟩
          · simp only [List.cons.injEq, and_true] at e; exact ⟨_, _, _, e⟩
        have hs2 : ∃ a n c, c5 = .slice a n c := by
          rcases DataW.trod_slice Tryz.underlying42 e2 with ⟨e, _⟩ | ⟨ad, len, cap', elems, rest, m, _, e, _⟩
          · simp only [List.cons.injEq, and_true] at e; exact ⟨_, _, _, e⟩
          · simp only [List.cons.injEq, and_true] at e; exact ⟨_, _, _, e⟩
        obtain ⟨a, n, c, rfl⟩ := hs1
        obtain ⟨ra, rn, rc, rfl⟩ := hs2
        obtain ⟨f, h4, hL⟩ := open_bytef (a := a) (n := n) (cap := c) ⟨_, e1⟩
        obtain ⟨fr, h5, hL2⟩ := open_bytef (a := ra) (n := rn) (cap := rc) ⟨_, e2⟩
        exact ⟨F, T, I, L, a, n, c, f, ra, rn, rc, fr, rfl, h4, hL, h5, hL2⟩
end
end Go.Proofs.YtdnkkbmpefhbjaaGreatDoor
