/- What a record is read as that was written, and written as that was read. -/
import Derived.Test.YtjhfepkpfakemaaDoorDec
namespace Go.Proofs.YtjhfepkpfakemaaDoor
set_option linter.all false
open Go Go.RowKit

theorem gd_left {l m : List Nat} {k : Nat} (h : k < l.length) : (l ++ m).getD k 0 = l.getD k 0 := by simp [List.getD, List.getElem?_append_left h]
theorem gd_right {l m : List Nat} {k : Nat} (h : l.length ≤ k) : (l ++ m).getD k 0 = m.getD (k - l.length) 0 := by simp [List.getD, List.getElem?_append_right h]
theorem eb_get (v : Nat) {j : Nat} (h : j < 32) : (eb v).getD j 0 = byt v j := by simp [eb, List.getD, h]
theorem els_get (s : Bool) (X : Nat → Nat) {n k j : Nat} (hk : k < n) (hj : j < 32) : (els s X n).getD (32 * k + j) 0 = byt (valm s (X k)) j := by
  induction n with
  | zero => omega
  | succ n ih =>
    rw [els_succ]
    by_cases h : k < n
    · rw [gd_left (by rw [els_len]; omega)]; exact ih h
    · obtain rfl : k = n := by omega
      rw [gd_right (by rw [els_len]; omega), els_len, Nat.add_sub_cancel_left]
      exact eb_get _ hj
theorem le_eb {p v : Nat} (hv : v < p) (hp : p < R4) {f : Nat → Nat} (hf : ∀ j, j < 32 → f j = byt v j) : le f 32 = v := by
  rw [le_congr 32 hf, le_byt]
  exact Nat.mod_eq_of_lt (Nat.lt_trans hv (Nat.lt_of_lt_of_eq hp (by decide)))
section
variable {s : Bool} {T I L : Int} {n : Nat} {X : Nat → Nat}
abbrev recB (s : Bool) (T I L : Int) (n : Nat) (X : Nat → Nat) : List Nat := bodyB s T I L n X ++ shaL (bodyB s T I L n X)
theorem recB_len : (recB s T I L n X).length = 38 + 32 * n := by rw [List.length_append, bodyB_len, shaL_len]; omega
theorem recB_lt (h2 : T ≤ 255) (h3 : I ≤ 255) (h4 : L ≤ 65535) : ∀ x ∈ recB s T I L n X, x < 256 := by
  intro x hx
  rcases List.mem_append.1 hx with hx | hx
  · exact bodyB_lt h2 h3 h4 _ _ x hx
  · exact shaL_lt _ x hx
theorem recB_head {k : Nat} (hk : k < 6) : (recB s T I L n X).getD k 0 = (hdB (fid s) T I L).getD k 0 := by
  rw [gd_left (by rw [bodyB_len]; omega)]
  unfold bodyB
  rw [gd_left (by simp only [hdB, List.length_cons, List.length_nil]; omega)]
theorem recB_el {k j : Nat} (hk : k < n) (hj : j < 32) : (recB s T I L n X).getD (6 + 32 * k + j) 0 = byt (valm s (X k)) j := by
  rw [gd_left (by rw [bodyB_len]; omega)]
  unfold bodyB
  rw [gd_right (by simp only [hdB, List.length_cons, List.length_nil]; omega), show 6 + 32 * k + j - (hdB (fid s) T I L).length = 32 * k + j by simp only [hdB, List.length_cons, List.length_nil]; omega]
  exact els_get s X hk hj
theorem recB_dv {k : Nat} (hk : k < n) : dv (recB s T I L n X) k = valm s (X k) := le_eb (valm_lt s _) (pr_lt s) fun j hj => recB_el hk hj
theorem recB_tag : tagOk (recB s T I L n X).length (recB s T I L n X) = true := by
  unfold tagOk
  rw [decide_eq_true_eq, recB_len, show 38 + 32 * n - 32 = (bodyB s T I L n X).length by rw [bodyB_len]; omega, List.take_left, List.drop_left, List.take_of_length_le (by rw [shaL_len]; omega)]
theorem recB_B1 : B (recB s T I L n X) 1 = fid s := by
  unfold B; rw [recB_head (by omega)]; cases s <;> rfl
theorem recB_B2 (h : 0 ≤ T) : B (recB s T I L n X) 2 = T := by
  unfold B; rw [recB_head (by omega)]; exact Int.toNat_of_nonneg h
theorem recB_B3 (h : 0 ≤ I) : B (recB s T I L n X) 3 = I := by
  unfold B; rw [recB_head (by omega)]; exact Int.toNat_of_nonneg h
theorem recB_dL (h : 0 ≤ L) : dL (recB s T I L n X) = L := by
  unfold dL B
  rw [recB_head (by omega), recB_head (by omega)]
  show (((L % 256).toNat : Nat) : Int) + 256 * (((L / 256).toNat : Nat) : Int) = L
  omega
theorem recB_dS : dS (recB s T I L n X) = s := by
  unfold dS; rw [recB_head (by omega)]; cases s <;> rfl
/-- What was written is read. -/
theorem rt (hT : 1 ≤ T ∧ T ≤ 255) (hI : 1 ≤ I ∧ I ≤ 255) (hL : 0 ≤ L ∧ L ≤ 65535) (hn : n = cn L) : dErr (recB s T I L n X).length (recB s T I L n X) = 0 := by
  have hd : dHead (recB s T I L n X).length (recB s T I L n X) = 0 := by
    have e0 : (recB s T I L n X).getD 0 0 = 1 := by rw [recB_head (by omega)]; rfl
    have e1 := recB_B1 (s := s) (T := T) (I := I) (L := L) (n := n) (X := X)
    have e2 := recB_B2 (s := s) (I := I) (L := L) (n := n) (X := X) (show 0 ≤ T by omega)
    have e3 := recB_B3 (s := s) (T := T) (L := L) (n := n) (X := X) (show 0 ≤ I by omega)
    have e4 := recB_dL (s := s) (T := T) (I := I) (n := n) (X := X) hL.1
    have e5 := recB_len (s := s) (T := T) (I := I) (L := L) (n := n) (X := X)
    have hf : fid s = 1 ∨ fid s = 2 := fid_or s
    unfold B at e1 e2 e3
    have e6 : rsz L = 38 + 32 * (cn L : Int) := if_pos hL
    unfold dHead
    rw [e4, e6, if_neg (by omega), if_neg (by omega), if_neg (by omega), if_neg (by omega), if_neg (by omega), if_neg (by omega)]
  have ho : okB (dS (recB s T I L n X)) (dv (recB s T I L n X)) (cn (dL (recB s T I L n X))) = true := by
    rw [recB_dS, recB_dL hL.1, ← hn]
    exact okB_of fun i hi => by rw [recB_dv hi]; exact valm_lt s _
  unfold dErr
  rw [if_neg (by rw [hd]; decide), if_pos ho, if_pos recB_tag]
end
/-- What was read is written as it was. -/
theorem canon {n : Nat} {l : List Nat} (hn : n = l.length) (hl : ∀ x ∈ l, x < 256) (h : dErr n l = 0) :
    shErr (B l 1) (B l 2) (B l 3) (dL l) (cn (dL l)) (fun i => RR (dS l) (dv l i)) = 0 ∧ rB (B l 1) (B l 2) (B l 3) (dL l) (cn (dL l)) (fun i => RR (dS l) (dv l i)) = l := by
  have g := fun k => getD_lt hl k
  unfold dErr at h
  split at h
  · rename_i h0; exact absurd h h0
  rename_i h0
  have h0 : dHead n l = 0 := Classical.byContradiction fun e => h0 e
  split at h
  · rename_i ho
    split at h
    · rename_i ht
      obtain ⟨h38, hb0, hb1, hb2, hb3, hn2, hL0, hL1⟩ := dHead_zero h0
      have hF := dS_fid hb1
      have hz : shErr (B l 1) (B l 2) (B l 3) (dL l) (cn (dL l)) (fun i => RR (dS l) (dv l i)) = 0 := by
        unfold shErr
        rw [hF, fid_dec, if_pos (fid_or _), if_pos (by have := g 2; unfold B; omega), if_pos (by have := g 3; unfold B; omega), if_pos ⟨hL0, hL1⟩, if_pos rfl, if_pos (okB_of fun i _ => RR_lt _ _)]
      refine ⟨hz, ?_⟩
      unfold rB
      rw [if_pos hz, hF, fid_dec]
      have hbody : bodyB (dS l) (B l 2) (B l 3) (dL l) (cn (dL l)) (fun i => RR (dS l) (dv l i)) = l.take (n - 32) := by
        refine (list_eq (n := n - 32) (by rw [bodyB_len]; omega) (by rw [List.length_take]; omega)).1 fun i hi => ?_
        rw [show (l.take (n - 32)).getD i 0 = l.getD i 0 by simp [List.getD, List.getElem?_take, hi]]
        unfold bodyB
        by_cases h6 : i < 6
        · rw [gd_left (by simp only [hdB, List.length_cons, List.length_nil]; omega)]
          have g4 := g 4
          have g5 := g 5
          have hi6 : i = 0 ∨ i = 1 ∨ i = 2 ∨ i = 3 ∨ i = 4 ∨ i = 5 := by omega
          rcases hi6 with rfl | rfl | rfl | rfl | rfl | rfl
          · exact hb0.symm
          · show (fid (dS l)).toNat = l.getD 1 0
            rw [← hF]; exact Int.toNat_natCast _
          · exact Int.toNat_natCast _
          · exact Int.toNat_natCast _
          · show ((dL l) % 256).toNat = l.getD 4 0
            unfold dL B; omega
          · show ((dL l) / 256).toNat = l.getD 5 0
            unfold dL B; omega
        · rw [gd_right (by simp only [hdB, List.length_cons, List.length_nil]; omega)]
          have e : i - (hdB (fid (dS l)) (B l 2) (B l 3) (dL l)).length = 32 * ((i - 6) / 32) + (i - 6) % 32 := by simp only [hdB, List.length_cons, List.length_nil]; omega
          rw [e, els_get _ _ (by omega) (Nat.mod_lt _ (by decide)), valm_RR _ (okB_at ho (by omega))]
          unfold dv
          rw [byt_le (fun j => g _) (Nat.mod_lt _ (by decide))]
          congr 1
          omega
      rw [hbody]
      exact Classical.byContradiction fun hne => (tag_iff hn (by omega)).1 hne ht
    · omega
  · omega
theorem bytesEqQ (w : World) (a b : Option Addr) (n c m d : Nat) (l l' : List Nat) (h1 : LstAt w 1 (.slice a n c) n (el bc l)) (h2 : LstAt w 1 (.slice b m d) m (el bc l')) (h : l = l') :
    Calls Tryd.prog 15 #[.slice a n c, .slice b m d] w fun e w' => e = .returned (.bool true) ∧ w = w' := by
  subst h
  have e1 := lst_num h1
  have e2 := lst_num h2
  refine (Tryd.bytes_Equal_all a b n c m d _ _ w (by simp; omega) (by simp; omega) (bytesIn_of h1) (bytesIn_of h2)).mono ?_
  rintro e w' ⟨rfl, rfl⟩
  exact ⟨by simp, rfl⟩
theorem prefixQ (w : World) (a b : Option Addr) (n c m d : Nat) (l l' : List Nat) (h1 : LstAt w 1 (.slice a n c) n (el bc (l ++ l'))) (h2 : LstAt w 1 (.slice b m d) m (el bc l)) :
    Calls Tryd.prog 23 #[.slice a n c, .slice b m d] w fun e w' => e = .returned (.bool true) ∧ w = w' := by
  have e1 := lst_num h1
  have e2 := lst_num h2
  refine (Tryd.bytes_HasPrefix_all a b n c m d _ _ w (by simp at e1 ⊢; omega) (by simp; omega) (lst_cap h1) (bytesIn_of h1) (bytesIn_of h2)).mono ?_
  rintro e w' ⟨rfl, rfl⟩
  exact ⟨by simp [Lib.hasPrefix, Lib.bytesOf], rfl⟩
theorem cloneQ (a : Option Addr) (n c : Nat) (l : List Nat) (W : World) (h : LstAt W 1 (.slice a n c) n (el bc l)) (hn : n ≤ 100000) :
    Calls Tryd.prog 20 #[.slice a n c] W fun e w => ∃ b d, e = .returned (.slice b n d) ∧ Sat no W [row 5 1 (.slice b n d) n (el bc l)] [] w := by
  have hl := lst_num h
  cases a with
  | none =>
    obtain ⟨a', c', he, _, h0, _⟩ := h.at_
    cases he
    obtain ⟨rfl, rfl⟩ := h0 rfl
    obtain rfl : l = [] := List.eq_nil_of_length_eq_zero hl.symm
    refine (Tryd.bytes_Clone_nil 0 0 W).mono ?_
    rintro e w ⟨rfl, rfl⟩
    exact ⟨none, 0, rfl, (start0 w).row0 _ _⟩
  | some ad =>
    have hc : ∀ i, i < n → W.cell? (ad.add i) = some (.int .u8 ((l.map fun x : Nat => (x : Int)).getD i 0)) := fun i hi => by
      rw [show W.cell? (ad.add i) = _ from lst_byte h hi]
      simp [List.getD, hl ▸ hi]
    refine (Tryd.bytes_Clone_at ad n c _ W (by simp; omega) (by omega) hc).mono ?_
    rintro e w ⟨v, rfl, ho, _, hb⟩
    have e1 : (l.map fun x : Nat => (x : Int)).map (Value.int .u8) = el bc l := by
      rw [List.map_map]
      clear hc ho h hl
      induction l with
      | nil => rfl
      | cons y m ih => rw [List.map_cons, ih]; rfl
    rw [e1] at ho
    rcases ho.2 with ⟨rfl, rfl⟩ | ⟨g, cap, cur, rfl, _⟩
    · exact ⟨none, 0, rfl, (start0 W).ofOwn hb ho⟩
    · exact ⟨_, cap, rfl, (start0 W).ofOwn hb ho⟩
end Go.Proofs.YtjhfepkpfakemaaDoor
