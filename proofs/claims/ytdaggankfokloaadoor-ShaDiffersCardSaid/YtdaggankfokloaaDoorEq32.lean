/- Equality of two arrays of 32 bytes; bytes.Equal, bytes.Clone and bytes.HasPrefix on slices of known bytes. -/
import Derived.Test.YtdaggankfokloaaDoorSumM
import Derived.Test.YtdaggankfokloaaDoorShelf
import Derived.ChangeKeysEq
namespace Go.Proofs.YtdaggankfokloaaDoor
set_option linter.all false
open Go Go.RowKit

/-- The first n bytes agree. -/
def eqF (f g : Nat → Nat) (n : Nat) : Bool := (List.range n).all fun j => f j == g j
theorem eqF_refl (f : Nat → Nat) (n : Nat) : eqF f f n = true := by unfold eqF; simp
theorem size_u8 (w : World) : (sizeOf 5).run Tryd.prog w = .ok 1 w := by kernel_rfl
theorem run_part_u8 (f : Nat → Nat) (n j : Nat) (hj : j < n) (w : World) : (part 5 (fl f n).toArray (j * 1)).run Tryd.prog w = .ok (.int .u8 ((f j : Nat) : Int)) w := by
  have h : (fl f n).toArray[j]? = some (.int .u8 ((f j : Nat) : Int)) := by rw [List.getElem?_toArray]; exact fl_get f n j hj
  simp [part, Sem.run_bind, size_u8, isAgg, run_underlying Tryd.underlying5, h]
theorem run_eqItems_u8 (d n : Nat) (f g : Nat → Nat) : ∀ (is : List Nat) (w : World), (∀ j ∈ is, j < n) →
    (Op.eqItems (d + 1) 5 1 (fl f n).toArray (fl g n).toArray is).run Tryd.prog w = .ok (is.all fun j => f j == g j) w
  | [], w, _ => by simp [Op.eqItems]
  | j :: is, w, h => by
    have ih := run_eqItems_u8 d n f g is w (fun k hk => h k (List.mem_cons_of_mem _ hk))
    have hj := h j (List.mem_cons_self ..)
    simp only [Op.eqItems, Sem.run_bind, run_part_u8 f n j hj, run_part_u8 g n j hj, Result.andThen_ok, run_equalIn_int _ d 5 .u8 .u8 _ _ Tryd.underlying5, List.all_cons]
    have e : (((f j : Nat) : Int) == ((g j : Nat) : Int)) = (f j == g j) := by
      rw [Bool.eq_iff_iff]; simp; omega
    rw [e]
    generalize (f j == g j) = b
    cases b
    · simp
    · simpa using ih
@[go_sem] theorem eqGuard32 : Tryd.prog.eqGuardType Tryd.prog.depth 25 = false := by kernel_rfl
theorem cellsU8 : Tryd.prog.cellsOf 5 = 1 := by kernel_rfl
@[go_sem] theorem eql32 (f g : Nat → Nat) (w : World) : (Op.equalIn 10000 25 (.agg (fl f 32).toArray) (.agg (fl g 32).toArray)).run Tryd.prog w = .ok (eqF f g 32) w := by
  obtain ⟨i0, hi, _⟩ := info_parts infoByte
  rw [run_equalIn_array w 9999 _ _ Tryd.underlying25 hi, cellsU8, run_eqItems_u8 9998 32 f g _ w (fun j hj => List.mem_range.1 hj)]
  rfl

/-- The numbers of n bytes. -/
def nl (f : Nat → Nat) (n : Nat) : List Int := (List.range n).map fun j => ((f j : Nat) : Int)
theorem nl_len (f : Nat → Nat) (n : Nat) : (nl f n).length = n := by simp [nl]
theorem nl_get (f : Nat → Nat) (n i : Nat) (h : i < n) : (nl f n).getD i 0 = ((f i : Nat) : Int) := by simp [nl, List.getD, h]
theorem nl_congr {f g : Nat → Nat} {n : Nat} (h : ∀ j, j < n → f j = g j) : nl f n = nl g n := by
  unfold nl
  exact List.map_congr_left fun j hj => by rw [h j (List.mem_range.1 hj)]
theorem SliceAt.bytesIn {w : World} {a : Option Addr} {n c : Nat} {f : Nat → Nat} (h : SliceAt w a n c f) : Lib.BytesIn w a n (nl f n) := by
  intro hn
  rcases h.at_ with ⟨_, h0, _⟩ | ⟨ad, rfl, k⟩
  · omega
  obtain ⟨b, off, rfl, hB⟩ := k hn
  refine ⟨b, off, rfl, fun i hi => ?_⟩
  rw [nl_get f n i hi]
  exact hB.cell i hi
theorem bytesEq_c (w : World) (a b : Option Addr) (n c d : Nat) (f g : Nat → Nat) (h1 : SliceAt w a n c f) (h2 : SliceAt w b n d g) (h : ∀ j, j < n → f j = g j) :
    Calls Tryd.prog 13 #[.slice a n c, .slice b n d] w fun e w' => e = .returned (.bool true) ∧ Below w.heap.size w w' := by
  refine (Tryd.bytes_Equal_all a b n c n d (nl f n) (nl g n) w (nl_len f n) (nl_len g n) h1.bytesIn h2.bytesIn).mono ?_
  rintro e w' ⟨rfl, rfl⟩
  refine ⟨?_, Below.refl _ _⟩
  rw [nl_congr h]
  simp
theorem bytesPre_c (w : World) (a b : Option Addr) (n c m d : Nat) (f g : Nat → Nat) (hc : n ≤ c) (hm : m ≤ n) (h1 : SliceAt w a n c f) (h2 : SliceAt w b m d g) (h : ∀ j, j < m → f j = g j) :
    Calls Tryd.prog 19 #[.slice a n c, .slice b m d] w fun e w' => e = .returned (.bool true) ∧ Below w.heap.size w w' := by
  refine (Tryd.bytes_HasPrefix_all a b n c m d (nl f n) (nl g m) w (nl_len f n) (nl_len g m) hc h1.bytesIn h2.bytesIn).mono ?_
  rintro e w' ⟨rfl, rfl⟩
  refine ⟨?_, Below.refl _ _⟩
  rw [← Lib.bytes_hasPrefix, nl_len, nl_len]
  have e : (nl f n).take m = nl g m := by
    rw [← nl_congr h]
    unfold nl
    rw [← List.map_take, List.take_range, Nat.min_eq_left hm]
  rw [e]
  simp [hm]
theorem fl_nl (f : Nat → Nat) (n : Nat) : fl f n = (nl f n).map (Value.int .u8) := by unfold fl nl; rw [List.map_map]; rfl
/-- bytes.Clone gives bytes of the call's own (nil of nil). -/
theorem bytesClone_c (w : World) (a : Option Addr) (n c : Nat) (f : Nat → Nat) (hn : n ≤ 1000000) (h : SliceAt w a n c f) :
    Calls Tryd.prog 10 #[.slice a n c] w fun e w' => (∃ a' c', e = .returned (.slice a' n c') ∧ w'.ownsRow w.heap.size 5 1 (.slice a' n c') n (fl f n)) ∧ Below w.heap.size w w' := by
  rcases h.at_ with ⟨rfl, rfl, rfl⟩ | ⟨ad, rfl, k⟩
  · refine (Tryd.bytes_Clone_nil 0 0 w).mono ?_
    rintro e w' ⟨rfl, rfl⟩
    exact ⟨⟨none, 0, rfl, World.ownsRow_nil _ _ _ _⟩, Below.refl _ _⟩
  · refine (Tryd.bytes_Clone_at ad n c (nl f n) w (nl_len f n) (by omega) (fun i hi => ?_)).mono ?_
    · obtain ⟨b, off, rfl, hB⟩ := k (by omega)
      rw [nl_get f n i hi]
      exact (hB.src i _ (fl_get f n i hi))
    · rintro e w' ⟨v', rfl, ho, _, hb⟩
      rw [← fl_nl] at ho
      obtain ⟨a', c', rfl⟩ := row_slice2 ho
      exact ⟨⟨a', c', rfl, ho⟩, hb⟩
end Go.Proofs.YtdaggankfokloaaDoor
