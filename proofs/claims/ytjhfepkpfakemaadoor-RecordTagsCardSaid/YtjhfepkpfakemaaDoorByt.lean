/- Bytes as lists, for the walks by triples: sums, encodings, equality, slices.Concat of two slices. -/
import Derived.Test.YtjhfepkpfakemaaDoorShare
import Derived.Test.YtjhfepkpfakemaaDoorShaB
import Derived.Test.YtjhfepkpfakemaaDoorSevenC
import Derived.Lib.AppendZerosOnto
namespace Go.Proofs.YtjhfepkpfakemaaDoor
set_option linter.all false
open Go Go.RowKit

/-- A row that a call made. -/
theorem Sat.ofOwn {F0 : Nat → Prop} {W w w' : World} {M R : List Res} {T : TypeId} {sz n : Nat} {v : Value} {xs : List Value} (hs : Sat F0 W M R w) (hb : Below w.heap.size w w') (ho : w'.ownsRow w.heap.size T sz v n xs) : Sat F0 W (row T sz v n xs :: M) R w' :=
  hs.new (.ofBelow hb) ⟨ho.1, ho.2.imp id fun ⟨g, cap, cur, e, hg, r⟩ => ⟨g, cap, cur, e, Nat.zero_le _, r⟩⟩ fun k hk => (ho.lt k hk).1
theorem start0 (W : World) : Sat no W [] [] W := Sat.start W [] fun _ h => by cases h
theorem fl_el (f : Nat → Nat) (n : Nat) : Sh.fl f n = el bc ((List.range n).map f) := by
  unfold Sh.fl el bc
  induction (List.range n) with
  | nil => rfl
  | cons y m ih => simp [ih]
theorem bl_el (v n : Nat) : bl v n = el bc ((List.range n).map (byt v)) := by
  unfold bl el bc
  induction (List.range n) with
  | nil => rfl
  | cons y m ih => simp [ih]
theorem lst_cap {w : World} {a : Option Addr} {n c s : Nat} {xs : List Value} (h : LstAt w s (.slice a n c) n xs) : n ≤ c := by
  obtain ⟨a', c', he, h1, _⟩ := h.at_
  cases he
  exact h1
theorem lst_num {w : World} {a : Option Addr} {n c : Nat} {l : List Nat} (h : LstAt w 1 (.slice a n c) n (el bc l)) : n = l.length := by
  have := h.len
  rw [el_len bc_len] at this
  omega
theorem lst_byte {w : World} {a : Option Addr} {n c : Nat} {l : List Nat} (h : LstAt w 1 (.slice a n c) n (el bc l)) {j : Nat} (hj : j < n) : w.cell? ((adq a).add j) = some (.int .u8 ((l.getD j 0 : Nat) : Int)) := by
  have hl := lst_num h
  have := lstq h hj (el_chunk bc_len (by omega) 0) 0 _ rfl
  rw [Nat.mul_one] at this
  rw [← this]
  congr 1
theorem sliceAt_of {w : World} {a : Option Addr} {n c : Nat} {l : List Nat} (h : LstAt w 1 (.slice a n c) n (el bc l)) (hl : ∀ x ∈ l, x < 256) : Sh.SliceAt w a n c (fun i => l.getD i 0) := by
  have hlt : ∀ j, l.getD j 0 < 256 := fun j => by
    by_cases hj : j < l.length
    · rw [show l.getD j 0 = l[j] by simp [List.getD, hj]]; exact hl _ (List.getElem_mem hj)
    · rw [show l.getD j 0 = 0 by simp [List.getD, List.getElem?_eq_none (Nat.le_of_not_lt hj)]]; decide
  obtain ⟨a', c', he, hnc, hn, hx⟩ := h.at_
  cases he
  refine ⟨hlt, hnc, ?_⟩
  rcases a with _ | ad
  · exact .inl ⟨rfl, (hn rfl).1, (hn rfl).2⟩
  · refine .inr ⟨ad, rfl, fun h0 => ?_⟩
    obtain ⟨h1, h2, _⟩ := hx ad rfl h0
    obtain ⟨b, o, sp⟩ := ad
    cases h1
    exact ⟨b, o, rfl, hlt, h2, fun j hj => by have := lst_byte h hj; rw [show adq (some (⟨b, o, none⟩ : Addr)) = ⟨b, o, none⟩ from rfl, add_pos] at this; exact this⟩
theorem bytesIn_of {w : World} {a : Option Addr} {n c : Nat} {l : List Nat} (h : LstAt w 1 (.slice a n c) n (el bc l)) : Lib.BytesIn w a n (l.map fun x : Nat => (x : Int)) := by
  intro hn
  have ha := lst_some h hn
  have hl := lst_num h
  obtain ⟨a', c', he, _, _, hx⟩ := h.at_
  cases he
  obtain ⟨h1, h2, h3⟩ := hx _ ha hn
  refine ⟨(adq a).block, (adq a).off, by rw [ha, ← h1]; rfl, fun i hi => ?_⟩
  have := lst_byte h hi
  have e : adq a = ⟨(adq a).block, (adq a).off, none⟩ := by rw [← h1]
  rw [e, add_pos] at this
  rw [this]
  simp [List.getD, hl ▸ hi]
/-- A string of bytes. -/
def sN (l : List Nat) : ByteArray := strOfNums (l.map fun x : Nat => (x : Int))
theorem sN_toList (l : List Nat) : (sN l).toList = l.map UInt8.ofNat := by
  unfold sN
  rw [Lib.strOfNums_toList]
  unfold Lib.bytesOf
  simp [Function.comp_def]
theorem sN_inj {l m : List Nat} (hl : ∀ x ∈ l, x < 256) (hm : ∀ x ∈ m, x < 256) : (sN l).toList = (sN m).toList ↔ l = m := by
  rw [sN_toList, sN_toList]
  constructor
  · intro h
    have h2 := congrArg (List.map UInt8.toNat) h
    rw [List.map_map, List.map_map] at h2
    have e : ∀ k : List Nat, (∀ x ∈ k, x < 256) → k.map (UInt8.toNat ∘ UInt8.ofNat) = k := fun k hk => by
      conv => rhs; rw [← List.map_id k]
      exact List.map_congr_left fun x hx => by simp [Nat.mod_eq_of_lt (hk x hx)]
    rwa [e l hl, e m hm] at h2
  · rintro rfl; rfl
section
variable {P : Program} {G : List (Nat × Value)} {w : World} {d : Option Nat} {T : Nat} {p : String} {e : Array Edge} {g : Option (Nat × Bool)} {x y : Operand} {tx ty td te : TypeId}
theorem w_cvB {a : Option Addr} {n c : Nat} {l : List Nat} (hx : evq G x = some (.slice a n c)) (h : LstAt w 1 (.slice a n c) n (el bc l)) (hs : P.underlying tx = some (.slice te)) (he : P.underlying te = some (.int .u8)) (hd : P.underlying td = some .string) :
    Wq P G ⟨d, .convert tx td x, T, p, e, g⟩ (.string (sN l)) w w := .of1 hx fun ev h1 => by
  have hc := (bytesIn_of h).convert (by rw [List.length_map]; exact (lst_num h).symm) c tx te td hs he hd
  simp only [execOp, h1, Sem.run_bind, hc, Sem.run_pure, Result.andThen_ok]
  rfl
theorem w_sne {l m : List Nat} {t : Bool} (hx : evq G x = some (.string (sN l))) (hy : evq G y = some (.string (sN m))) (hl : ∀ x ∈ l, x < 256) (hm : ∀ x ∈ m, x < 256) (hr : decide (l ≠ m) = t) : Wq P G ⟨d, .binOp .neq tx x y ty, T, p, e, g⟩ (.bool t) w w := .of2 hx hy fun ev h1 h2 => by
  subst hr
  have hq : ((sN l).toList == (sN m).toList) = decide (l = m) := by rw [Bool.eq_iff_iff]; simp [sN_inj hl hm]
  simp only [execOp, h1, h2, eqGuard_at_string, binOp_string_neq, Sem.run_bind, Sem.run_pure, Result.andThen_ok, hq]
  simp
end
/-- The sum of bytes. -/
def shaL (l : List Nat) : List Nat := (List.range 32).map (Sh.sm (fun i => l.getD i 0) l.length)
theorem shaL_len (l : List Nat) : (shaL l).length = 32 := by simp [shaL]
theorem shaL_lt (l : List Nat) : ∀ x ∈ shaL l, x < 256 := by
  intro x hx
  unfold shaL at hx
  rw [List.mem_map] at hx
  obtain ⟨i, _, rfl⟩ := hx
  exact Sh.sb_lt _ _
theorem shaQ (a : Option Addr) (n c : Nat) (l : List Nat) (w : World) (h : LstAt w 1 (.slice a n c) n (el bc l)) (hl : ∀ x ∈ l, x < 256) (hn : n ≤ 100000) (hL : Sh.Laid w) :
    Calls Tryd.prog 46 #[.slice a n c] w fun e w' => e = .returned (.agg (el bc (shaL l)).toArray) ∧ Below w.heap.size w w' := by
  have := Sh.shaSum_any a n c _ hn w hL (sliceAt_of h hl)
  rw [fl_el] at this
  have e := lst_num h
  subst e
  exact this
theorem refShaQ (a : Option Addr) (n c : Nat) (l : List Nat) (w : World) (h : LstAt w 1 (.slice a n c) n (el bc l)) (hl : ∀ x ∈ l, x < 256) (hn : n ≤ 100000) :
    Calls Tryd.prog 49 #[.slice a n c] w fun e w' => e = .returned (.agg (el bc (shaL l)).toArray) ∧ Below w.heap.size w w' := by
  have := Sh.refSum_any a n c _ hn w (sliceAt_of h hl)
  rw [fl_el] at this
  have e := lst_num h
  subst e
  exact this
/-- The bytes of an element. -/
def eb (v : Nat) : List Nat := (List.range 32).map (byt v)
theorem eb_len (v : Nat) : (eb v).length = 32 := by simp [eb]
theorem eb_lt (v : Nat) : ∀ x ∈ eb v, x < 256 := by
  intro x hx
  unfold eb at hx
  rw [List.mem_map] at hx
  obtain ⟨i, _, rfl⟩ := hx
  exact byt_lt _ _
theorem encodeQ (s : Bool) (x : Nat) (hx : x < pr s) (W : World) :
    Calls Tryd.prog 29 #[fieldV s, vec x] W fun e w => ∃ a c, e = .returned (.slice a 32 c) ∧ Sat no W [row 5 1 (.slice a 32 c) 32 (el bc (eb (valm s x)))] [] w := by
  have h := encode_walk s (RR s (valm s x)) (valm s x) (Lib.hid (fromR_c s (valm s x) (valm_lt s x))) W
  rw [RR_valm s hx] at h
  refine h.mono ?_
  rintro e w ⟨⟨r, rfl, ho⟩, hb⟩
  rw [bl_el] at ho
  obtain ⟨g, cap, cur, rfl, hg⟩ := ho.2.resolve_left (fun h => by omega)
  exact ⟨_, cap, rfl, (start0 W).ofOwn hb ho⟩
theorem refEncodeQ (v : Nat) (W : World) :
    Calls Tryd.prog 32 #[vec v] W fun e w => ∃ a c, e = .returned (.slice a 32 c) ∧ Sat no W [row 5 1 (.slice a 32 c) 32 (el bc (eb v))] [] w := by
  refine (refEncode_c v W).mono ?_
  rintro e w ⟨⟨r, rfl, ho⟩, hb⟩
  rw [bl_el] at ho
  have ho' : w.ownsRow W.heap.size 5 1 r 32 (el bc ((List.range 32).map (byt v))) := ⟨ho.1, ho.2.imp id fun ⟨g, cap, cur, e, hg, q⟩ => ⟨g, cap, cur, e, by omega, q⟩⟩
  obtain ⟨g, cap, cur, rfl, hg⟩ := ho.2.resolve_left (fun h => by omega)
  exact ⟨_, cap, rfl, (start0 W).ofOwn hb ho'⟩
set_option maxRecDepth 100000 in
set_option maxHeartbeats 4000000 in
/-- slices.Grow of nil. -/
theorem grow0_c (n : Nat) (hn : 0 < n) (hb : n ≤ 10000000) (W : World) : Calls Tryd.prog 61 #[.slice none 0 0, .int .i64 (n : Int)] W fun e w => ∃ a c, e = .returned (.slice a 0 c) ∧ Sat no W [row 5 1 (.slice a 0 c) 0 (el bc [])] [] w := by
  obtain ⟨i0, hi, hz0, hz1, hz2⟩ := info_parts infoByte
  have hrz : ∀ ty, (Builtin.append_ #[29, 3] ty #[.slice none 0 0, .int .i64 (n : Int)]).run Tryd.prog W = .ok (.slice (some ⟨W.heap.size, 0, none⟩) n (grownCap W n 0 5)) (W.drew.alloc (.cells (#[] ++ Builtin.zeroCells #[.int .u8 0] n ++ Builtin.zeroCells #[.int .u8 0] (grownCap W n 0 5 - n)) 5)) := fun ty => by
    have h := Lib.run_append_grow_zeros W 29 3 ty 5 i0 (.int .u8 0) .i64 .i64 Tryd.underlying29 Tryd.underlying3 hi hz0 none 0 0 [] (run_firstCells_none _ _ _ _ _) n hn (by omega) (by omega) (by omega) (by rw [hz2]; omega)
      (growslice_fits (by omega) (by rw [hz2]; omega))
    rw [Nat.zero_add] at h
    exact h
  have hG := grownCap_ge W n 0 5
  have hM := grownCap_le_maxLen W n 0 5 (by unfold maxLen; omega)
  obtain ⟨G, eG⟩ : ∃ G, G = grownCap W n 0 5 := ⟨_, rfl⟩
  rw [← eG] at hrz hG hM
  have ho := World.ownsRow_made (base := W.heap.size) (e := 5) (size := 1) W (Builtin.zeroCells #[.int .u8 0] n ++ Builtin.zeroCells #[.int .u8 0] (G - n)) G (Nat.le_refl _) hM (by simp [Builtin.zeroCells]; omega)
  have Ho := Lib.hid ho
  have hM' : G ≤ 9223372036854775807 := by unfold maxLen at hM; omega
  clear ho eG hi hz0 hz1 hz2 hM
  go_enter Tryd.func61, Tryd.ntmps61
  go_wp2_with (at_builtin; refine Lib.wpList_append_run _ rfl _ _ _ _ rfl _ _ rfl rfl _ _ (hrz _) ?_)
  go_ret
  exact ⟨_, _, rfl, (start0 W).ofOwn (((Below.refl _ _).alloc (Nat.le_refl _) _).drew) Ho.out⟩
end Go.Proofs.YtjhfepkpfakemaaDoor
