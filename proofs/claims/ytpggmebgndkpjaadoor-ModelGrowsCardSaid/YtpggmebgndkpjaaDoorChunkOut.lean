/- What Split and Join hand back, read as slices of vectors and of bytes; the way back. No law in sight. -/
import Derived.Test.YtpggmebgndkpjaaDoorChunkSplit
import Derived.Test.YtpggmebgndkpjaaDoorChunkJoin
namespace Go.Proofs.YtpggmebgndkpjaaDoor
set_option linter.all false
open Go Go.RowKit Go.Shelf

theorem own_vecs {w : World} {B n : Nat} {v : Value} {l : List Nat} (h : w.ownsRow B 45 4 v n (vcs l)) : l.length = n ∧ ∃ a c, v = .slice a n c ∧ n ≤ c ∧ VecsAt w a n (fun i => l.getD i 0) := by
  have hl := h.1
  rw [vcs_len] at hl
  have hln : l.length = n := by omega
  refine ⟨hln, ?_⟩
  rcases h.2 with ⟨rfl, rfl⟩ | ⟨g, cap, cur, rfl, hb, hg, hc, _⟩
  · exact ⟨none, 0, rfl, by omega, ⟨.inl rfl⟩⟩
  · refine ⟨_, cap, rfl, hc, ⟨.inr ⟨g, 0, rfl, (h.lt g rfl).2, fun i hi j hj => ?_⟩⟩⟩
    have := h.cells (g := g) rfl (4 * i + j) _ (vcs_get l i j (by omega) hj)
    have e : (⟨g, 0, none⟩ : Addr).add (4 * i + j) = ⟨g, 0 + i * 4 + j, none⟩ := by unfold Addr.add; split <;> simp_all; omega
    rwa [e] at this
theorem own_vals {w : World} {B n : Nat} {v : Value} {l : List Nat} (h : w.ownsRow B 44 4 v n (vcs l)) : l.length = n ∧ ∃ a c, v = .slice a n c ∧ n ≤ c ∧ VecsAt w a n (fun i => l.getD i 0) := by
  have hl := h.1
  rw [vcs_len] at hl
  have hln : l.length = n := by omega
  refine ⟨hln, ?_⟩
  rcases h.2 with ⟨rfl, rfl⟩ | ⟨g, cap, cur, rfl, hb, hg, hc, _⟩
  · exact ⟨none, 0, rfl, by omega, ⟨.inl rfl⟩⟩
  · refine ⟨_, cap, rfl, hc, ⟨.inr ⟨g, 0, rfl, (h.lt g rfl).2, fun i hi j hj => ?_⟩⟩⟩
    have := h.cells (g := g) rfl (4 * i + j) _ (vcs_get l i j (by omega) hj)
    have e : (⟨g, 0, none⟩ : Addr).add (4 * i + j) = ⟨g, 0 + i * 4 + j, none⟩ := by unfold Addr.add; split <;> simp_all; omega
    rwa [e] at this
theorem own_bytes {w : World} {B n : Nat} {v : Value} {f : Nat → Nat} (hf : ∀ j, f j < 256) (h : w.ownsRow B 5 1 v n (fl f n)) : ∃ a c, v = .slice a n c ∧ n ≤ c ∧ SliceAt w a n f := by
  rcases h.2 with ⟨rfl, rfl⟩ | ⟨g, cap, cur, rfl, hb, hg, hc, _⟩
  · exact ⟨none, 0, rfl, by omega, hf, .inl rfl⟩
  · refine ⟨_, cap, rfl, hc, BytesAt.slice ⟨hf, (h.lt g rfl).2, fun j hj => ?_⟩⟩
    have := h.cells (g := g) rfl j _ (fl_get f n j hj)
    have e : (⟨g, 0, none⟩ : Addr).add j = ⟨g, 0 + j, none⟩ := by unfold Addr.add; split <;> simp_all
    rwa [e] at this

/-- The value of chunk i. -/
def cv (n : Nat) (f : Nat → Nat) (i : Nat) : Nat := le (fun j => f (31 * i + j)) (cz n i)
theorem pr_big (s : Bool) : 256 ^ 31 < pr s := by cases s <;> decide
theorem cz_le (n i : Nat) : cz n i ≤ 31 := by unfold cz; omega
theorem cv_lt {n : Nat} {f : Nat → Nat} (hf : ∀ j, f j < 256) (i : Nat) : cv n f i < 256 ^ cz n i := le_lt (fun j => hf _) _
theorem cv_pr (s : Bool) {n : Nat} {f : Nat → Nat} (hf : ∀ j, f j < 256) (i : Nat) : cv n f i < pr s :=
  Nat.lt_trans (Nat.lt_of_lt_of_le (cv_lt hf i) (Nat.pow_le_pow_right (by decide) (cz_le n i))) (pr_big s)
theorem mulm1_lt {p x : Nat} (hx : x < p) : mulm p 1 x = x := by unfold mulm; rw [Nat.mul_one, Nat.mod_eq_of_lt hx]
theorem ck_cv (s : Bool) {n : Nat} {f : Nat → Nat} (hf : ∀ j, f j < 256) (i : Nat) : ck s n f i = RR s (cv n f i) := by
  unfold ck
  rw [mulm1_lt]
  · rfl
  · exact cv_pr s hf i
theorem Zf_of_lt {v m : Nat} (h : v < 256 ^ m) : Zf v m := fun j h1 _ => by
  unfold byt
  rw [Nat.div_eq_of_lt (Nat.lt_of_lt_of_le h (Nat.pow_le_pow_right (by decide) h1))]
theorem fl_congr {f g : Nat → Nat} {n : Nat} (h : ∀ j, j < n → f j = g j) : fl f n = fl g n := by
  unfold fl
  exact List.map_congr_left fun j hj => by rw [h j (List.mem_range.1 hj)]
theorem fl_add (f : Nat → Nat) (a b : Nat) : fl f a ++ fl (fun j => f (a + j)) b = fl f (a + b) := by
  unfold fl
  rw [List.range_add, List.map_append, List.map_map]
  rfl
theorem cn_hi {n k : Nat} (hn : n ≤ 65535) (hk : cn n ≤ k) : n ≤ 31 * k := by
  unfold cn at hk
  split at hk <;> omega
theorem byC_cv {n : Nat} {f : Nat → Nat} (hf : ∀ j, f j < 256) (k : Nat) : byC n (cv n f) (List.range k) = fl f (min n (31 * k)) := by
  induction k with
  | zero => simp [byC, fl]
  | succ k ih =>
    rw [List.range_succ, byC_snoc, ih]
    have e : fl (byt (cv n f k)) (cz n k) = fl (fun j => f (31 * k + j)) (cz n k) := fl_congr fun j hj => byt_le (fun _ => hf _) hj
    rw [e]
    by_cases h : 31 * k ≤ n
    · rw [Nat.min_eq_right h, fl_add]
      congr 1
      unfold cz
      omega
    · have e0 : cz n k = 0 := by unfold cz; omega
      rw [e0, Nat.min_eq_left (by omega), Nat.min_eq_left (by omega)]
      simp [fl]
theorem okC_cv {n : Nat} {f : Nat → Nat} (hf : ∀ j, f j < 256) (l : List Nat) : okC n (cv n f) l := fun i _ => Zf_of_lt (cv_lt hf i)

/-- Split's answer on a secret that is not too long. -/
theorem split_v (s : Bool) (a : Option Addr) (n c : Nat) (f : Nat → Nat) (hn : n ≤ 65535) (hc : n ≤ c) (w : World) (hS : SliceAt w a n f) :
    Calls Tryd.prog 35 #[fieldV s, .slice a n c] w fun e w' => (∃ r, e = .returned r ∧ ∃ b d, r = .tuple #[.slice b (cn n) d, .int .i64 0] ∧ VecsAt w' b (cn n) (fun i => RR s (cv n f i))) ∧ Below w.heap.size w w' := by
  refine (split_ok s a n c f hn hc w hS).mono ?_
  rintro e w' ⟨⟨v, rfl, hv⟩, hb⟩
  obtain ⟨_, b, d, rfl, _, hX⟩ := own_vecs hv
  refine ⟨⟨_, rfl, b, d, rfl, ?_⟩, hb⟩
  refine ⟨hX.at_.imp id fun ⟨g, off, e, hl, hc⟩ => ⟨g, off, e, hl, fun i hi j hj => ?_⟩⟩
  rw [hc i hi j hj]
  have e : ((List.range (cn n)).map (ck s n f)).getD i 0 = RR s (cv n f i) := by
    rw [← ck_cv s hS.lt]
    simp [List.getD, hi]
  rw [e]
/-- Join reads back what Split made. -/
theorem join_back (s : Bool) (a : Option Addr) (n c : Nat) (f : Nat → Nat) (hf : ∀ j, f j < 256) (hn : n ≤ 65535) (w : World) (hX : VecsAt w a (cn n) (fun i => RR s (cv n f i))) :
    Calls Tryd.prog 34 #[fieldV s, .slice a (cn n) c, .int .i64 (n : Int)] w fun e w' => (∃ r, e = .returned r ∧ ∃ b d, r = .tuple #[.slice b n d, .int .i64 0] ∧ SliceAt w' b n f) ∧ Below w.heap.size w w' := by
  refine (join_walk s a n c (cv n f) hn w (Lib.hid hX) (Lib.hid fun i _ => cv_pr s hf i)).mono ?_
  rintro e w' ⟨⟨r, rfl, hJ⟩, hb⟩
  refine ⟨⟨r, rfl, ?_⟩, hb⟩
  rcases hJ with ⟨_, out, k, rfl, ho⟩ | ⟨h, _⟩
  · rw [byC_cv hf, Nat.min_eq_left (cn_hi hn (Nat.le_refl _))] at ho
    have hk := ho.1
    rw [fl_length] at hk
    obtain rfl : n = k := by omega
    obtain ⟨b, d, rfl, _, hS⟩ := own_bytes hf ho
    exact ⟨b, d, rfl, hS⟩
  · exact absurd (okC_cv hf _) h
end Go.Proofs.YtpggmebgndkpjaaDoor
