/- Part 3 of what the proof of JoinEvents needs: joined out of the texts of this seat, only what is used. -/
import Derived.Test.YtdnkkbmpefhbjaaGreatDoorPdB
import Derived.MapKept
import Derived.Laws.Cover3
import Derived.Maps.AppendAt
import Derived.OwnWalk
import Derived.Laws.CopyOwn
import Derived.IntWalk
namespace Go.Proofs.YtdnkkbmpefhbjaaGreatDoor
set_option linter.all false
open Go Go.RowKit Alg
/-- A pair as yield gets it. -/
def evP (x : Nat × Nat) : List Value := [.int .i64 ((x.1 : Nat) : Int), vec x.2]
def upP (n : Nat) (f : Nat → Nat) : List (Nat × Nat) := (List.range n).map fun i => (i, f i)
def dnP (n : Nat) (f : Nat → Nat) : List (Nat × Nat) := (List.range n).map fun i => (n - 1 - i, f (n - 1 - i))
def coefP (x : Nat × Nat) : Ev := (2, ((x.1 : Nat) : Int), 0)
theorem upP_get {n i : Nat} {f : Nat → Nat} (h : i < n) : (upP n f)[i]? = some (i, f i) := by simp [upP, h]
theorem dnP_get {n i : Nat} {f : Nat → Nat} (h : i < n) : (dnP n f)[i]? = some (n - 1 - i, f (n - 1 - i)) := by simp [dnP, h]
theorem upP_len {n : Nat} {f : Nat → Nat} : (upP n f).length = n := by simp [upP]
theorem dnP_len {n : Nat} {f : Nat → Nat} : (dnP n f).length = n := by simp [dnP]
theorem upP_some {n k : Nat} {f : Nat → Nat} {x : Nat × Nat} (h : (upP n f)[k]? = some x) : k < n ∧ x = (k, f k) := by
  have hk : k < n := by have := (List.getElem?_eq_some_iff.1 h).1; rwa [upP_len] at this
  rw [upP_get hk] at h
  exact ⟨hk, (Option.some.inj h).symm⟩
theorem dnP_some {n k : Nat} {f : Nat → Nat} {x : Nat × Nat} (h : (dnP n f)[k]? = some x) : k < n ∧ x = (n - 1 - k, f (n - 1 - k)) := by
  have hk : k < n := by have := (List.getElem?_eq_some_iff.1 h).1; rwa [dnP_len] at this
  rw [dnP_get hk] at h
  exact ⟨hk, (Option.some.inj h).symm⟩
theorem take_coef {xs : List (Nat × Nat)} {k : Nat} {x : Nat × Nat} {evs : List Ev} (h : xs[k]? = some x) : evs ++ (xs.take k).map coefP ++ [(2, ((x.1 : Nat) : Int), 0)] = evs ++ (xs.take (k + 1)).map coefP := by
  have hl := (List.getElem?_eq_some_iff.1 h).1
  rw [List.take_succ_eq_append_getElem hl, List.map_append, List.append_assoc, (List.getElem?_eq_some_iff.1 h).2]
  rfl
theorem upP_coef {n : Nat} {f : Nat → Nat} : ((upP n f).take n).map coefP = upE 0 (n : Int) fun i => [(2, i, 0)] := by
  rw [List.take_of_length_le (by rw [upP_len]; exact Nat.le_refl n)]
  unfold upP upE
  rw [List.map_map, show ((n : Int) - 0).toNat = n by omega]
  generalize n = m
  induction m with
  | zero => rfl
  | succ m ih => rw [List.range_succ, List.map_append, List.map_append, List.flatten_append, ih]; simp [coefP]
theorem dnP_coef {n : Nat} {f : Nat → Nat} : ((dnP n f).take n).map coefP = downE (n : Int) fun i => [(2, i, 0)] := by
  rw [List.take_of_length_le (by rw [dnP_len]; exact Nat.le_refl n)]
  unfold dnP downE upE
  rw [List.map_map, show ((n : Int) - 0).toNat = n by omega]
  have key : ∀ m, m ≤ n → (List.range m).map (coefP ∘ fun i => (n - 1 - i, f (n - 1 - i))) = ((List.range m).map fun (i : Nat) => [((2 : Int), (n : Int) - 1 - (0 + (i : Int)), (0 : Int))]).flatten := by
    intro m
    induction m with
    | zero => intro _; rfl
    | succ m ih =>
      intro hm
      rw [List.range_succ, List.map_append, List.map_append, List.flatten_append, ih (by omega)]
      congr 1
      simp only [List.map_cons, List.map_nil, Function.comp, coefP, List.flatten_cons, List.flatten_nil, List.append_nil]
      rw [show (((n - 1 - m : Nat)) : Int) = (n : Int) - 1 - (0 + (m : Int)) by omega]
  exact key n (Nat.le_refl n)
theorem all_it (b n lc : Nat) (la : Option Addr) (f : Nat → Nat) (hn : n ≤ 1000000000) : IterQ Tryz.prog 178 [.pointer (some ⟨b, 0, none⟩)] evP (upP n f) (fun _ r => r = nores) (rall [blk b [.slice la n lc] 51, lst 4 (.slice la n lc) n (en vq f n)]) := by
 intro l J Jx F0 W R hR hY FR j k w0 hj hK hs
 obtain rfl := hK
 refine c_enter (args := [.func (.yield l) #[] #[], .pointer (some ⟨b, 0, none⟩)]) Tryz.func178 rfl rfl rfl fun a hk => ?_
 refine wS (wR ?_)
 refine q_v hk (w_ld1 rfl ty51 (.blk (n := 1) ((hR.pi 0 rfl).at_ hs) rfl)) fun a hk => ?_
 refine q_v hk (w_len rfl Tryz.underlying51) fun a hk => ?_
 refine q_v hk (w_mv rfl) fun a hk => ?_
 refine c_end (x_t ?_)
 refine wpIn_block ?_
 refine c_loop (α := Nat) (fun i a w => ∃ (j : Res), i ≤ n ∧ J i j ∧ Kn [] 18 [(7, .int .i64 (i : Int)), (6, .int .i64 ((n : Nat) : Int)), (5, .slice la n lc), (0, .func (.yield l) #[] #[])] a ∧ Sat F0 W [j, nores, FR] R w) (fun i => n - i) 0 ?_ ?_
 · exact ⟨_, (by omega), hj, hk.k rfl (hk.k rfl (hk.k rfl (hk.k rfl hk.nil))), hs⟩
 rintro i a w ⟨j, hf0, hf1, hk, hs⟩
 have hj := hf1
 refine wS (wR ?_)
 rcases Classical.em ((i : Int) < ((n : Nat) : Int)) with hc1 | hc1
 ·
  have hlt : i < n := by omega
  refine q_v hk (w_lt rfl rfl (decide_eq_true hc1)) fun a hk => ?_
  refine c_end (x_t (wS ?_))
  refine c_T hk rfl ?_
  refine (wpIn_skip (x_t ?_))
  refine wS ?_
  refine wpIn_block ?_
  refine wS (wR ?_)
  refine q_v hk (w_mv rfl) fun a hk => ?_
  refine q_v hk (w_iaL (k := i) rfl rfl Tryz.underlying51 ty56 ((hR.pi 1 rfl).at_ hs) (by omega) (by omega)) fun a hk => ?_
  refine q_v hk (w_ldv (z := f i) rfl ty56 (lstq (k := i) ((hR.pi 1 rfl).at_ hs) (by omega) (en_chunk vq_len (by omega)))) fun a hk => ?_
  refine q_alc (vs := [.int .u64 0, .int .u64 0, .int .u64 0, .int .u64 0]) hk hs zr56 rfl rfl rfl fun b2 w a hk hs => ?_
  refine q_v hk (w_as rfl) fun a hk => ?_
  refine q_sto (o := 0) (cs := [.int .u64 ((dg 0 (f i) : Nat) : Int), .int .u64 ((dg 1 (f i) : Nat) : Int), .int .u64 ((dg 2 (f i) : Nat) : Int), .int .u64 ((dg 3 (f i) : Nat) : Int)]) (vs' := [.int .u64 ((dg 0 (f i) : Nat) : Int), .int .u64 ((dg 1 (f i) : Nat) : Int), .int .u64 ((dg 2 (f i) : Nat) : Int), .int .u64 ((dg 3 (f i) : Nat) : Int)]) hk hs rfl rfl rfl ty56 rfl rfl rfl rfl rfl rfl fun w hs => ?_
  refine c_end (x_t (wS (wR ?_)))
  refine q_v hk (w_mv rfl) fun a hk => ?_
  refine q_v hk (w_mv rfl) fun a hk => ?_
  refine q_v hk (w_ldv (z := f i) rfl ty56 (.blk (n := 4) (hs.mi 0 rfl) rfl)) fun a hk => ?_
  have hs := hs.up1
  refine q_yield hk hs i (i, f i) rfl rfl hY (upP_get hlt) rfl hj rfl rfl fun y3 j w a hj hk hs => ?_
  refine q_v hk (w_not rfl) fun a hk => ?_
  refine c_end (x_t ?_)
  rcases y3 with _ | _
  ·
   have hj : Jx (i + 1) j := hj
   refine c_T hk rfl ?_
   refine (wpIn_ret (x_br (x_tr (x_tr (x_br ?_)))))
   refine c_ret0 hk rfl ?_
   have hs := hs.up1
   have hs := hs.drop
   exact ⟨⟨_, rfl⟩, _, _, hs, .inr ⟨i, (by rw [upP_len]; omega), hj, rfl⟩⟩
  ·
   have hj : J (i + 1) j := hj
   refine c_F hk rfl ?_
   refine (wpIn_skip (x_b (x_t ?_)))
   refine wR ?_
   refine q_v hk (w_add rfl rfl (wr64 (by omega) (by omega))) fun a hk => ?_
   refine q_v hk (w_mv rfl) fun a hk => ?_
   refine c_end (x_t ?_)
   have hs := hs.up1
   have hs := hs.drop
   exact ⟨i + 1, ⟨_, (by omega), hj, hk.k rfl (hk.k rfl (hk.k rfl (hk.k rfl hk.nil))), hs⟩, by omega⟩
 ·
  refine q_v hk (w_lt rfl rfl (decide_eq_false hc1)) fun a hk => ?_
  refine c_end (x_t (wS ?_))
  refine c_F hk rfl ?_
  refine (wpIn_exit (x_te (x_te (x_be ?_))))
  refine c_end0 hk rfl ?_
  exact ⟨⟨_, rfl⟩, _, _, hs, .inl ⟨(by have e : i = (upP n f).length := (by rw [upP_len]; omega); rw [← e]; exact hj), rfl⟩⟩
theorem back_it (b n lc : Nat) (la : Option Addr) (f : Nat → Nat) (hn : n ≤ 1000000000) : IterQ Tryz.prog 169 [.pointer (some ⟨b, 0, none⟩)] evP (dnP n f) (fun _ r => r = nores) (rall [blk b [.slice la n lc] 51, lst 4 (.slice la n lc) n (en vq f n)]) := by
 intro l J Jx F0 W R hR hY FR j k w0 hj hK hs
 obtain rfl := hK
 refine c_enter (args := [.func (.yield l) #[] #[], .pointer (some ⟨b, 0, none⟩)]) Tryz.func169 rfl rfl rfl fun a hk => ?_
 refine wS (wR ?_)
 refine q_v hk (w_ld1 rfl ty51 (.blk (n := 1) ((hR.pi 0 rfl).at_ hs) rfl)) fun a hk => ?_
 refine q_v hk (w_len rfl Tryz.underlying51) fun a hk => ?_
 refine q_v hk (w_sub rfl rfl (wr64 (by omega) (by omega))) fun a hk => ?_
 refine q_v hk (w_as rfl) fun a hk => ?_
 refine c_end (x_t ?_)
 refine wpIn_block ?_
 refine c_loop (α := Nat) (fun i a w => ∃ (j : Res) (xi : Int), (i ≤ n ∧ xi = (n : Int) - 1 - (i : Int)) ∧ J i j ∧ Kn [] 19 [(3, .int .i64 xi), (0, .func (.yield l) #[] #[]), (1, .pointer (some ⟨b, 0, none⟩))] a ∧ Sat F0 W [j, nores, FR] R w) (fun i => n - i) 0 ?_ ?_
 · exact ⟨_, _, ⟨by omega, by omega⟩, hj, hk.k rfl (hk.k rfl (hk.k rfl hk.nil)), hs⟩
 rintro i a w ⟨j, xi, hf0, hf1, hk, hs⟩
 have hj := hf1
 refine wS (wS (wR ?_))
 refine q_v hk (w_mv rfl) fun a hk => ?_
 rcases Classical.em (0 ≤ xi) with hc1 | hc1
 ·
  have hlt : i < n := by omega
  have hxi : xi = ((n - 1 - i : Nat) : Int) := by omega
  subst hxi
  refine q_v hk (w_ge rfl rfl (decide_eq_true hc1)) fun a hk => ?_
  refine c_end (x_t ?_)
  refine c_T hk rfl ?_
  refine (wpIn_skip (x_t ?_))
  refine wS ?_
  refine wpIn_block ?_
  refine wS (wR ?_)
  refine q_v hk (w_mv rfl) fun a hk => ?_
  refine q_v hk (w_mv rfl) fun a hk => ?_
  refine q_v hk (w_ld1 rfl ty51 (.blk (n := 1) ((hR.pi 0 rfl).at_ hs) rfl)) fun a hk => ?_
  refine q_v hk (w_mv rfl) fun a hk => ?_
  refine q_v hk (w_iaL (k := (n - 1 - i)) rfl rfl Tryz.underlying51 ty56 ((hR.pi 1 rfl).at_ hs) (by omega) (by omega)) fun a hk => ?_
  refine q_v hk (w_ldv (z := f (n - 1 - i)) rfl ty56 (lstq (k := (n - 1 - i)) ((hR.pi 1 rfl).at_ hs) (by omega) (en_chunk vq_len (by omega)))) fun a hk => ?_
  refine q_yield hk hs i (n - 1 - i, f (n - 1 - i)) rfl rfl hY (dnP_get hlt) rfl hj rfl rfl fun y2 j w a hj hk hs => ?_
  refine q_v hk (w_not rfl) fun a hk => ?_
  refine c_end (x_t ?_)
  rcases y2 with _ | _
  ·
   have hj : Jx (i + 1) j := hj
   refine c_T hk rfl ?_
   refine (wpIn_ret (x_br (x_tr (x_tr (x_br ?_)))))
   refine c_ret0 hk rfl ?_
   exact ⟨⟨_, rfl⟩, _, _, hs, .inr ⟨i, (by rw [dnP_len]; omega), hj, rfl⟩⟩
  ·
   have hj : J (i + 1) j := hj
   refine c_F hk rfl ?_
   refine (wpIn_skip (x_b (x_t ?_)))
   refine wR ?_
   refine q_v hk (w_mv rfl) fun a hk => ?_
   refine q_v hk (w_sub rfl rfl (wr64 (by omega) (by omega))) fun a hk => ?_
   refine q_v hk (w_as rfl) fun a hk => ?_
   refine c_end (x_t ?_)
   exact ⟨i + 1, ⟨_, _, ⟨by omega, by omega⟩, hj, hk.k rfl (hk.k rfl (hk.k rfl hk.nil)), hs⟩, by omega⟩
 ·
  refine q_v hk (w_ge rfl rfl (decide_eq_false hc1)) fun a hk => ?_
  refine c_end (x_t ?_)
  refine c_F hk rfl ?_
  refine (wpIn_exit (x_te (x_te (x_be ?_))))
  refine c_end0 hk rfl ?_
  exact ⟨⟨_, rfl⟩, _, _, hs, .inl ⟨(by have e : i = (dnP n f).length := (by rw [dnP_len]; omega); rw [← e]; exact hj), rfl⟩⟩
theorem all_c (n lc : Nat) (la : Option Addr) (W : World)  : Calls Tryz.prog 164 [.slice la n lc].toArray W fun e w => ∃ b, e = .returned (.func (.func 178) #[] #[.pointer (some ⟨b, 0, none⟩)]) ∧ Sat no W [blk b [.slice la n lc] 51] [] w := by
 refine c_enter (args := [.slice la n lc]) Tryz.func164 rfl rfl rfl fun a hk => ?_
 have hs := Sat.start W [] (fun _ h => by cases h)
 refine wS (wR ?_)
 refine q_box (vs := [.slice la n lc]) hk hs rfl rfl rfl rfl fun b1 w a hk hs => ?_
 refine q_v hk (w_as rfl) fun a hk => ?_
 refine c_end (x_t (wS (wR ?_)))
 refine q_v hk (w_mkf (frees := [.tmp 1]) rfl) fun a hk => ?_
 refine q_v hk (w_as rfl) fun a hk => ?_
 refine c_end (x_t ?_)
 refine (wpIn_ret ?_)
 refine c_ret1 hk rfl rfl ?_
 exact ⟨_, rfl, hs.fin⟩
theorem back_c (n lc : Nat) (la : Option Addr) (W : World)  : Calls Tryz.prog 148 [.slice la n lc].toArray W fun e w => ∃ b, e = .returned (.func (.func 169) #[] #[.pointer (some ⟨b, 0, none⟩)]) ∧ Sat no W [blk b [.slice la n lc] 51] [] w := by
 refine c_enter (args := [.slice la n lc]) Tryz.func148 rfl rfl rfl fun a hk => ?_
 have hs := Sat.start W [] (fun _ h => by cases h)
 refine wS (wR ?_)
 refine q_box (vs := [.slice la n lc]) hk hs rfl rfl rfl rfl fun b1 w a hk hs => ?_
 refine q_v hk (w_as rfl) fun a hk => ?_
 refine c_end (x_t (wS (wR ?_)))
 refine q_v hk (w_mkf (frees := [.tmp 1]) rfl) fun a hk => ?_
 refine q_v hk (w_as rfl) fun a hk => ?_
 refine c_end (x_t ?_)
 refine (wpIn_ret ?_)
 refine c_ret1 hk rfl rfl ?_
 exact ⟨_, rfl, hs.fin⟩
theorem rvis_it (t : Option Nat) (evs : List Ev) (x : Nat × List Value) (xs : List (Nat × Nat)) (rx : Res) (bl bt : Nat) (hD : Den Tryz.prog (fval x) evP xs rx) (hn : evs.length + xs.length ≤ 100000000000) : IterQ Tryz.prog 177 [.pointer (some ⟨bl, 0, none⟩), .pointer (some ⟨bt, 0, none⟩)] evP xs (fun i r => TapeIs t (evs ++ (xs.take i).map coefP) r) (rall [blk bl [fval x] 192, blk bt [tval t] 60, rx]) := by
 intro l J Jx F0 W R hR hY FR j k w0 hj hK hs
 have hT := hK
 refine c_enterM (args := [.func (.yield l) #[] #[], .pointer (some ⟨bl, 0, none⟩), .pointer (some ⟨bt, 0, none⟩)]) Tryz.func177 rfl rfl rfl fun a hk => ?_
 refine wS (wR ?_)
 refine q_box (vs := [.func (.yield l) #[] #[]]) hk hs rfl rfl rfl rfl fun b1 w a hk hs => ?_
 refine c_end (x_t (wS (wR ?_)))
 refine q_v hk (w_ld1 rfl ty192 (.blk (n := 1) ((hR.pi 0 rfl).at_ hs) rfl)) fun a hk => ?_
 refine c_end (x_t ?_)
 refine wpIn_block ?_
 have hk : Kn [] 17 [(6, fval x), (3, .pointer (some ⟨b1, 0, none⟩)), (2, .pointer (some ⟨bt, 0, none⟩))] a := hk.k rfl (hk.k rfl (hk.k rfl hk.nil))
 have hs := hs.up2
 have hs := hs.up2
 have hs := Sat.pack (l := [j, k, blk b1 [.func (.yield l) #[] #[]] 211]) hs
 have hs := hs.none.up1
 refine c_range0 hk hs rfl hD (hR.pi 2 rfl) (fun _ => rfl) rfl (fun k r => ∃ (j : Res) (rt : Res), J k j ∧ TapeIs t (evs ++ (xs.take k).map coefP) rt ∧ r = bun [j, rt, blk b1 [.func (.yield l) #[] #[]] 211]) (fun c k r => (c = .ret ∧ ∃ (j : Res) (rt : Res), Jx k j ∧ TapeIs t (evs ++ (xs.take k).map coefP) rt ∧ r = bun [j, rt, blk b1 [.func (.yield l) #[] #[]] 211])) ⟨_, _, hj, hT, rfl⟩ rfl ?_ ?_ ?_
 ·
  rintro l2 k2 x2 hx2 LR2 LB2 FR2 hL2 r a w ⟨j, rt, hj, hT, rfl⟩ hk hs
  have hkl : ((xs.take k2).map coefP).length ≤ xs.length := by rw [List.length_map]; exact List.length_take_le' _ _
  have hk : Kn [] 17 [(8, vec x2.2), (7, .int .i64 ((x2.1 : Nat) : Int)), (6, fval x), (3, .pointer (some ⟨b1, 0, none⟩)), (2, .pointer (some ⟨bt, 0, none⟩))] a := hk
  have hs : Sat F0 W [j, rt, blk b1 [.func (.yield l) #[] #[]] 211, LR2, FR2] R w := hs.unpack
  refine wS (wR ?_)
  refine q_v hk (w_as rfl) fun a hk => ?_
  refine c_end (x_t (wR ?_))
  refine q_alc (vs := [.int .u64 0, .int .u64 0, .int .u64 0, .int .u64 0]) hk hs zr56 rfl rfl rfl fun b3 w a hk hs => ?_
  refine q_sto (o := 0) (cs := [.int .u64 ((dg 0 x2.2 : Nat) : Int), .int .u64 ((dg 1 x2.2 : Nat) : Int), .int .u64 ((dg 2 x2.2 : Nat) : Int), .int .u64 ((dg 3 x2.2 : Nat) : Int)]) (vs' := [.int .u64 ((dg 0 x2.2 : Nat) : Int), .int .u64 ((dg 1 x2.2 : Nat) : Int), .int .u64 ((dg 2 x2.2 : Nat) : Int), .int .u64 ((dg 3 x2.2 : Nat) : Int)]) hk hs rfl rfl rfl ty56 rfl rfl rfl rfl rfl rfl fun w hs => ?_
  refine c_end (x_t ?_)
  have hs := hs.up4
  refine hL2.begin_ hs fun w hs => ?_
  refine wpIn_block ?_
  refine wS (wR ?_)
  refine q_v hk (w_ld1 rfl ty60 (.blk (n := 1) ((hR.pi 1 rfl).at_ hs) rfl)) fun a hk => ?_
  refine q_v hk (w_mv rfl) fun a hk => ?_
  have hs := hs.up3
  refine q_call (caps := []) hk rfl rfl Tryz.func61 fo61 rfl rfl (note_m t 2 ((x2.1 : Nat) : Int) 0 (evs ++ (xs.take k2).map coefP) _ _ hT hs (by rw [List.length_append]; omega)) ?_
  rintro _ w ⟨v4, r5, rfl, ht6, hs⟩
  have hT := ht6
  refine ⟨_, rfl, fun a hk => ?_⟩
  refine c_end (x_t (wS (wR ?_)))
  refine q_v hk (w_ld1 rfl ty211 (.blk (n := 1) (hs.mi 4 rfl) rfl)) fun a hk => ?_
  refine q_v hk (w_mv rfl) fun a hk => ?_
  refine q_v hk (w_ldv (z := x2.2) rfl ty56 (.blk (n := 4) (hs.mi 2 rfl) rfl)) fun a hk => ?_
  have hs := hs.up3
  refine q_yield hk hs k2 x2 rfl rfl hY hx2 rfl hj rfl rfl fun y7 j w a hj hk hs => ?_
  refine q_v hk (w_not rfl) fun a hk => ?_
  refine c_end (x_t ?_)
  rcases y7 with _ | _
  ·
   have hj : Jx (k2 + 1) j := hj
   refine c_T hk rfl ?_
   refine (wpIn_ret (x_br ?_))
   rw [take_coef hx2] at hT
   have hs := hs.up3
   have hs := hs.drop
   have hs := hs.up4
   have hs := hs.up3
   have hs := hs.up4
   have hs := hs.up4
   have hs := hs.up4
   exact ⟨_, ⟨rfl, ⟨_, _, hj, hT, rfl⟩⟩, Sat.pack (l := [_, _, _]) hs⟩
  ·
   have hj : J (k2 + 1) j := hj
   refine c_F hk rfl ?_
   refine (wpIn_skip (x_b ?_))
   rw [take_coef hx2] at hT
   have hs := hs.up3
   have hs := hs.drop
   have hs := hs.up4
   have hs := hs.up3
   have hs := hs.up4
   have hs := hs.up4
   have hs := hs.up4
   exact ⟨_, ⟨_, _, hj, hT, rfl⟩, Sat.pack (l := [_, _, _]) hs⟩
 ·
  intro D2 r r2 a w hJ hK hk hs
  obtain ⟨j, rt, hj, hT, rfl⟩ := hJ
  obtain rfl := hK
  have hs := Sat.unpack (l := [j, rt, blk b1 [.func (.yield l) #[] #[]] 211]) hs.up2.drop.up1
  have hs : Sat F0 W [j, rt, blk b1 [.func (.yield l) #[] #[]] 211, dres D2, FR] R w := hs
  refine (x_b ?_)
  have hs := hs.up4
  have hs := hs.up3
  have hs := hs.up3
  have hs := hs.up3
  have hs := hs.up4
  refine c_endM (M := [j, rt, blk b1 [.func (.yield l) #[] #[]] 211, FR]) hk hs fun w hs => ⟨_, res_ok (rs := []) (vs := []) hk rfl trivial, ?_⟩
  have hs := hs.up2
  have hs := hs.drop
  exact ⟨⟨_, rfl⟩, _, _, hs, .inl ⟨hj, hT⟩⟩
 ·
  rintro c D2 i2 r r2 a w hi2 ⟨rfl, j, rt, hj, hT, rfl⟩ hK hk hs
  obtain rfl := hK
  have hs := Sat.unpack (l := [j, rt, blk b1 [.func (.yield l) #[] #[]] 211]) hs.up2.drop.up1
  have hs : Sat F0 W [j, rt, blk b1 [.func (.yield l) #[] #[]] 211, dres D2, FR] R w := hs
  refine (wpIn_ret (x_br ?_))
  have hs := hs.up4
  have hs := hs.up3
  have hs := hs.up3
  have hs := hs.up3
  have hs := hs.up4
  refine c_retM (M := [j, rt, blk b1 [.func (.yield l) #[] #[]] 211, FR]) hk hs fun w hs => ⟨_, res_ok (rs := []) (vs := []) hk rfl trivial, ?_⟩
  have hs := hs.up2
  have hs := hs.drop
  exact ⟨⟨_, rfl⟩, _, _, hs, .inr ⟨i2, hi2, hj, hT⟩⟩
theorem rvis_c (t : Option Nat) (x : Nat × List Value) (W : World)  : Calls Tryz.prog 163 [tval t, fval x].toArray W fun e w => ∃ b3 b2, e = .returned (.func (.func 177) #[] #[.pointer (some ⟨b3, 0, none⟩), .pointer (some ⟨b2, 0, none⟩)]) ∧ Sat no W [blk b3 [fval x] 192, blk b2 [tval t] 60] [] w := by
 refine c_enter (args := [tval t, fval x]) Tryz.func163 rfl rfl rfl fun a hk => ?_
 have hs := Sat.start W [] (fun _ h => by cases h)
 refine wS (wR ?_)
 refine q_box (vs := [tval t]) hk hs rfl rfl rfl rfl fun b1 w a hk hs => ?_
 refine q_box (vs := [fval x]) hk hs rfl rfl rfl rfl fun b2 w a hk hs => ?_
 refine q_v hk (w_as rfl) fun a hk => ?_
 refine c_end (x_t (wS (wR ?_)))
 refine q_v hk (w_mkf (frees := [.tmp 3, .tmp 2]) rfl) fun a hk => ?_
 refine q_v hk (w_as rfl) fun a hk => ?_
 refine c_end (x_t ?_)
 refine (wpIn_ret ?_)
 refine c_ret1 hk rfl rfl ?_
 exact ⟨_, _, rfl, hs.fin⟩
theorem pvis_it (t : Option Nat) (evs : List Ev) (x : Nat × List Value) (xs : List (Nat × Nat)) (rx : Res) (bl bt : Nat) (hD : Den Tryz.prog (fval x) evP xs rx) (hn : evs.length + xs.length ≤ 100000000000) : IterQ Tryz.prog 168 [.pointer (some ⟨bl, 0, none⟩), .pointer (some ⟨bt, 0, none⟩)] evP xs (fun i r => TapeIs t (evs ++ (xs.take i).map coefP) r) (rall [blk bl [fval x] 192, blk bt [tval t] 60, rx]) := by
 intro l J Jx F0 W R hR hY FR j k w0 hj hK hs
 have hT := hK
 refine c_enterM (args := [.func (.yield l) #[] #[], .pointer (some ⟨bl, 0, none⟩), .pointer (some ⟨bt, 0, none⟩)]) Tryz.func168 rfl rfl rfl fun a hk => ?_
 refine wS (wR ?_)
 refine q_box (vs := [.func (.yield l) #[] #[]]) hk hs rfl rfl rfl rfl fun b1 w a hk hs => ?_
 refine c_end (x_t (wS (wR ?_)))
 refine q_v hk (w_ld1 rfl ty192 (.blk (n := 1) ((hR.pi 0 rfl).at_ hs) rfl)) fun a hk => ?_
 refine c_end (x_t ?_)
 refine wpIn_block ?_
 have hk : Kn [] 17 [(6, fval x), (3, .pointer (some ⟨b1, 0, none⟩)), (2, .pointer (some ⟨bt, 0, none⟩))] a := hk.k rfl (hk.k rfl (hk.k rfl hk.nil))
 have hs := hs.up2
 have hs := hs.up2
 have hs := Sat.pack (l := [j, k, blk b1 [.func (.yield l) #[] #[]] 211]) hs
 have hs := hs.none.up1
 refine c_range0 hk hs rfl hD (hR.pi 2 rfl) (fun _ => rfl) rfl (fun k r => ∃ (j : Res) (rt : Res), J k j ∧ TapeIs t (evs ++ (xs.take k).map coefP) rt ∧ r = bun [j, rt, blk b1 [.func (.yield l) #[] #[]] 211]) (fun c k r => (c = .ret ∧ ∃ (j : Res) (rt : Res), Jx k j ∧ TapeIs t (evs ++ (xs.take k).map coefP) rt ∧ r = bun [j, rt, blk b1 [.func (.yield l) #[] #[]] 211])) ⟨_, _, hj, hT, rfl⟩ rfl ?_ ?_ ?_
 ·
  rintro l2 k2 x2 hx2 LR2 LB2 FR2 hL2 r a w ⟨j, rt, hj, hT, rfl⟩ hk hs
  have hkl : ((xs.take k2).map coefP).length ≤ xs.length := by rw [List.length_map]; exact List.length_take_le' _ _
  have hk : Kn [] 17 [(8, vec x2.2), (7, .int .i64 ((x2.1 : Nat) : Int)), (6, fval x), (3, .pointer (some ⟨b1, 0, none⟩)), (2, .pointer (some ⟨bt, 0, none⟩))] a := hk
  have hs : Sat F0 W [j, rt, blk b1 [.func (.yield l) #[] #[]] 211, LR2, FR2] R w := hs.unpack
  refine wS (wR ?_)
  refine q_v hk (w_as rfl) fun a hk => ?_
  refine c_end (x_t (wR ?_))
  refine q_alc (vs := [.int .u64 0, .int .u64 0, .int .u64 0, .int .u64 0]) hk hs zr56 rfl rfl rfl fun b3 w a hk hs => ?_
  refine q_sto (o := 0) (cs := [.int .u64 ((dg 0 x2.2 : Nat) : Int), .int .u64 ((dg 1 x2.2 : Nat) : Int), .int .u64 ((dg 2 x2.2 : Nat) : Int), .int .u64 ((dg 3 x2.2 : Nat) : Int)]) (vs' := [.int .u64 ((dg 0 x2.2 : Nat) : Int), .int .u64 ((dg 1 x2.2 : Nat) : Int), .int .u64 ((dg 2 x2.2 : Nat) : Int), .int .u64 ((dg 3 x2.2 : Nat) : Int)]) hk hs rfl rfl rfl ty56 rfl rfl rfl rfl rfl rfl fun w hs => ?_
  refine c_end (x_t ?_)
  have hs := hs.up4
  refine hL2.begin_ hs fun w hs => ?_
  refine wpIn_block ?_
  refine wS (wR ?_)
  refine q_v hk (w_ld1 rfl ty60 (.blk (n := 1) ((hR.pi 1 rfl).at_ hs) rfl)) fun a hk => ?_
  refine q_v hk (w_mv rfl) fun a hk => ?_
  have hs := hs.up3
  refine q_call (caps := []) hk rfl rfl Tryz.func61 fo61 rfl rfl (note_m t 2 ((x2.1 : Nat) : Int) 0 (evs ++ (xs.take k2).map coefP) _ _ hT hs (by rw [List.length_append]; omega)) ?_
  rintro _ w ⟨v4, r5, rfl, ht6, hs⟩
  have hT := ht6
  refine ⟨_, rfl, fun a hk => ?_⟩
  refine c_end (x_t (wS (wR ?_)))
  refine q_v hk (w_ld1 rfl ty211 (.blk (n := 1) (hs.mi 4 rfl) rfl)) fun a hk => ?_
  refine q_v hk (w_mv rfl) fun a hk => ?_
  refine q_v hk (w_ldv (z := x2.2) rfl ty56 (.blk (n := 4) (hs.mi 2 rfl) rfl)) fun a hk => ?_
  have hs := hs.up3
  refine q_yield hk hs k2 x2 rfl rfl hY hx2 rfl hj rfl rfl fun y7 j w a hj hk hs => ?_
  refine q_v hk (w_not rfl) fun a hk => ?_
  refine c_end (x_t ?_)
  rcases y7 with _ | _
  ·
   have hj : Jx (k2 + 1) j := hj
   refine c_T hk rfl ?_
   refine (wpIn_ret (x_br ?_))
   rw [take_coef hx2] at hT
   have hs := hs.up3
   have hs := hs.drop
   have hs := hs.up4
   have hs := hs.up3
   have hs := hs.up4
   have hs := hs.up4
   have hs := hs.up4
   exact ⟨_, ⟨rfl, ⟨_, _, hj, hT, rfl⟩⟩, Sat.pack (l := [_, _, _]) hs⟩
  ·
   have hj : J (k2 + 1) j := hj
   refine c_F hk rfl ?_
   refine (wpIn_skip (x_b ?_))
   rw [take_coef hx2] at hT
   have hs := hs.up3
   have hs := hs.drop
   have hs := hs.up4
   have hs := hs.up3
   have hs := hs.up4
   have hs := hs.up4
   have hs := hs.up4
   exact ⟨_, ⟨_, _, hj, hT, rfl⟩, Sat.pack (l := [_, _, _]) hs⟩
 ·
  intro D2 r r2 a w hJ hK hk hs
  obtain ⟨j, rt, hj, hT, rfl⟩ := hJ
  obtain rfl := hK
  have hs := Sat.unpack (l := [j, rt, blk b1 [.func (.yield l) #[] #[]] 211]) hs.up2.drop.up1
  have hs : Sat F0 W [j, rt, blk b1 [.func (.yield l) #[] #[]] 211, dres D2, FR] R w := hs
  refine (x_b ?_)
  have hs := hs.up4
  have hs := hs.up3
  have hs := hs.up3
  have hs := hs.up3
  have hs := hs.up4
  refine c_endM (M := [j, rt, blk b1 [.func (.yield l) #[] #[]] 211, FR]) hk hs fun w hs => ⟨_, res_ok (rs := []) (vs := []) hk rfl trivial, ?_⟩
  have hs := hs.up2
  have hs := hs.drop
  exact ⟨⟨_, rfl⟩, _, _, hs, .inl ⟨hj, hT⟩⟩
 ·
  rintro c D2 i2 r r2 a w hi2 ⟨rfl, j, rt, hj, hT, rfl⟩ hK hk hs
  obtain rfl := hK
  have hs := Sat.unpack (l := [j, rt, blk b1 [.func (.yield l) #[] #[]] 211]) hs.up2.drop.up1
  have hs : Sat F0 W [j, rt, blk b1 [.func (.yield l) #[] #[]] 211, dres D2, FR] R w := hs
  refine (wpIn_ret (x_br ?_))
  have hs := hs.up4
  have hs := hs.up3
  have hs := hs.up3
  have hs := hs.up3
  have hs := hs.up4
  refine c_retM (M := [j, rt, blk b1 [.func (.yield l) #[] #[]] 211, FR]) hk hs fun w hs => ⟨_, res_ok (rs := []) (vs := []) hk rfl trivial, ?_⟩
  have hs := hs.up2
  have hs := hs.drop
  exact ⟨⟨_, rfl⟩, _, _, hs, .inr ⟨i2, hi2, hj, hT⟩⟩
theorem pvis_c (t : Option Nat) (x : Nat × List Value) (W : World)  : Calls Tryz.prog 147 [tval t, fval x].toArray W fun e w => ∃ b3 b2, e = .returned (.func (.func 168) #[] #[.pointer (some ⟨b3, 0, none⟩), .pointer (some ⟨b2, 0, none⟩)]) ∧ Sat no W [blk b3 [fval x] 192, blk b2 [tval t] 60] [] w := by
 refine c_enter (args := [tval t, fval x]) Tryz.func147 rfl rfl rfl fun a hk => ?_
 have hs := Sat.start W [] (fun _ h => by cases h)
 refine wS (wR ?_)
 refine q_box (vs := [tval t]) hk hs rfl rfl rfl rfl fun b1 w a hk hs => ?_
 refine q_box (vs := [fval x]) hk hs rfl rfl rfl rfl fun b2 w a hk hs => ?_
 refine q_v hk (w_as rfl) fun a hk => ?_
 refine c_end (x_t (wS (wR ?_)))
 refine q_v hk (w_mkf (frees := [.tmp 3, .tmp 2]) rfl) fun a hk => ?_
 refine q_v hk (w_as rfl) fun a hk => ?_
 refine c_end (x_t ?_)
 refine (wpIn_ret ?_)
 refine c_ret1 hk rfl rfl ?_
 exact ⟨_, _, rfl, hs.fin⟩
end Go.Proofs.YtdnkkbmpefhbjaaGreatDoor
namespace Go.Proofs.YtdnkkbmpefhbjaaGreatDoor
set_option linter.all false
open Go Go.RowKit Alg
/-- What Inverse computes. -/
def zinv {s : Bool} (x : Zp s) : Zp s := pw x (pr s - 2)
theorem sub2 (s : Bool) : subV (pr s) 2 = pr s - 2 := by cases s <;> decide
theorem sub2_c (s : Bool) (w : World) : Calls Tryz.prog 160 #[vec (pr s), vec 2] w fun e w' => e = .returned (.tuple #[vec (pr s - 2), .int .u64 ((subC (pr s) 2 : Nat) : Int)]) ∧ Below w.heap.size w w' := by
  have h := limbSub_c (pr s) 2 (pr_lt s) (by decide) w
  rw [sub2] at h
  exact h
/-- One in place of zero. -/
def nz {s : Bool} (x : Zp s) : Zp s := if x = 0 then 1 else x
def Pp {s : Bool} (x : Nat → Zp s) : Nat → Zp s
  | 0 => 1
  | i + 1 => Pp x i * nz (x i)
/-- The inverse of the products, after j rounds. -/
def Iv {s : Bool} (x : Nat → Zp s) (n : Nat) : Nat → Zp s
  | 0 => zinv (Pp x n)
  | j + 1 => Iv x n j * nz (x (n - 1 - j))
/-- What Batch computes. -/
def binv {s : Bool} (x : Nat → Zp s) (n i : Nat) : Zp s := if x i = 0 then 0 else Pp x i * Iv x n (n - 1 - i)
theorem nz_ch {s : Bool} (x : Zp s) : (if decide (x = 0) = true then rone s else mq x) = mq (nz x) := by
  unfold nz
  by_cases h : x = 0
  · rw [if_pos (decide_eq_true h), if_pos h, mq_one]
  · rw [if_neg (by simpa using h), if_neg h]
theorem bi_ch {s : Bool} (x : Nat → Zp s) (n j : Nat) : (if decide (x (n - 1 - j) = 0) = true then 0 else mq (Pp x (n - 1 - j) * Iv x n j)) = if j < n then mq (binv x n (n - 1 - j)) else (if decide (x (n - 1 - j) = 0) = true then 0 else mq (Pp x (n - 1 - j) * Iv x n j)) := by
  by_cases hj : j < n
  · rw [if_pos hj]
    unfold binv
    rw [show n - 1 - (n - 1 - j) = j by omega]
    by_cases h : x (n - 1 - j) = 0
    · rw [if_pos (decide_eq_true h), if_pos h, mq_zero]
    · rw [if_neg (by simpa using h), if_neg h]
  · rw [if_neg hj]
/-- The elements of the result after k, j rounds. -/
def bat1 {s : Bool} (x : Nat → Zp s) (k i : Nat) : Nat := if i < k then mq (Pp x i) else 0
def bat2 {s : Bool} (x : Nat → Zp s) (n j i : Nat) : Nat := if n ≤ i + j then mq (binv x n i) else mq (Pp x i)
theorem bat1_step {s : Bool} {x : Nat → Zp s} {k n : Nat} : en vq (fun i => if i = k then mq (Pp x k) else bat1 x k i) n = en vq (bat1 x (k + 1)) n := en_congr fun i _ => by
  unfold bat1
  by_cases h : i = k
  · subst h; rw [if_pos rfl, if_pos (Nat.lt_succ_self _)]
  · rw [if_neg h]
    by_cases l : i < k
    · rw [if_pos l, if_pos (by omega)]
    · rw [if_neg l, if_neg (by omega)]
theorem bat2_zero {s : Bool} {x : Nat → Zp s} {n : Nat} : en vq (bat1 x n) n = en vq (bat2 x n 0) n := en_congr fun i hi => by
  unfold bat1 bat2; rw [if_pos hi, if_neg (by omega)]
theorem bat2_step {s : Bool} {x : Nat → Zp s} {j n : Nat} (hj : j < n) : en vq (fun i => if i = n - 1 - j then (if decide (x (n - 1 - j) = 0) = true then 0 else mq (Pp x (n - 1 - j) * Iv x n j)) else bat2 x n j i) n = en vq (bat2 x n (j + 1)) n := en_congr fun i hi => by
  rw [bi_ch, if_pos hj]
  unfold bat2
  by_cases h : i = n - 1 - j
  · rw [if_pos h, if_pos (by omega), h]
  · rw [if_neg h]
    by_cases l : n ≤ i + j
    · rw [if_pos l, if_pos (by omega)]
    · rw [if_neg l, if_neg (by omega)]
theorem bat2_end {s : Bool} {x : Nat → Zp s} {n : Nat} : en vq (bat2 x n n) n = en vq (fun i => mq (binv x n i)) n := en_congr fun i hi => by unfold bat2; rw [if_pos (by omega)]
theorem bat2_at {s : Bool} {x : Nat → Zp s} {n j : Nat} (hj : j < n) : bat2 x n j (n - 1 - j) = mq (Pp x (n - 1 - j)) := by unfold bat2; rw [if_neg (by omega)]
theorem coefU_len (n : Nat) : (upE 0 (n : Int) coefE).length = n := (upE_one 0 (n : Int) fun i => (2, i, 0)).trans (by omega)
theorem coefD_len (n : Nat) : (downE (n : Int) coefE).length = n := (upE_one 0 (n : Int) fun i => (2, (n : Int) - 1 - i, 0)).trans (by omega)
theorem bat1_zero {s : Bool} {x : Nat → Zp s} {n : Nat} : en vq (fun _ => 0) n = en vq (bat1 x 0) n := en_congr fun i _ => by unfold bat1; rw [if_neg (Nat.not_lt_zero i)]
theorem pp_zero {s : Bool} {x : Nat → Zp s} : vq (rone s) = vq (mq (Pp x 0)) := by show _ = vq (mq 1); rw [mq_one]
def batE (n : Nat) : List Ev := upE 0 (n : Int) coefE ++ inverseE ++ downE (n : Int) coefE
theorem inv_m {F0 : Nat → Prop} {W : World} {M R : List Res} (s : Bool) (x : Zp s) (t : Option Nat) (evs : List Ev) (r : Res) (w0 : World) (hs : Sat F0 W (r :: M) R w0) (hT : TapeIs t evs r) (hn : evs.length ≤ 10000000000) : Calls Tryz.prog 167 [tval t, fieldV s, vec (mq x)].toArray w0 fun e w => ∃ r, e = .returned (vec (mq (zinv x))) ∧ TapeIs t (evs ++ inverseE) r ∧ Sat F0 W (r :: M) R w := by
 refine c_enter (args := [tval t, fieldV s, vec (mq x)]) Tryz.func167 rfl rfl rfl fun a hk => ?_
 refine wS (wR ?_)
 refine q_box (vs := fieldL s) hk hs rfl rfl rfl rfl fun b1 w a hk hs => ?_
 refine q_box (vs := [.int .u64 ((dg 0 (mq x) : Nat) : Int), .int .u64 ((dg 1 (mq x) : Nat) : Int), .int .u64 ((dg 2 (mq x) : Nat) : Int), .int .u64 ((dg 3 (mq x) : Nat) : Int)]) hk hs rfl rfl rfl rfl fun b2 w a hk hs => ?_
 refine q_alc (vs := [.int .u64 0, .int .u64 0, .int .u64 0, .int .u64 0]) hk hs zr56 rfl rfl rfl fun b3 w a hk hs => ?_
 refine c_end (x_t (wS (wR ?_)))
 refine q_v hk (w_fa rfl fq120_1 ty47) fun a hk => ?_
 refine q_v hk (w_ldv (z := pr s) rfl ty47 (.blk (n := 4) (hs.mi 2 rfl) rfl)) fun a hk => ?_
 refine q_v hk (w_bldv1 (k := 2) rfl rfl (by decide) Tryz.underlying47 ty46 zr47) fun a hk => ?_
 refine q_call (caps := []) hk rfl rfl Tryz.func160 fo160 rfl rfl (sub2_c s _) ?_
 rintro _ w ⟨rfl, hb⟩
 have hs := hs.below hb
 refine ⟨_, rfl, fun a hk => ?_⟩
 refine q_v hk (w_mv rfl) fun a hk => ?_
 refine q_v hk (w_ext rfl rfl) fun a hk => ?_
 refine q_v hk (w_ext rfl rfl) fun a hk => ?_
 refine q_alc (vs := [.int .u64 0, .int .u64 0, .int .u64 0, .int .u64 0]) hk hs zr47 rfl rfl rfl fun b4 w a hk hs => ?_
 refine q_sto (o := 0) (cs := [.int .u64 ((dg 0 (pr s - 2) : Nat) : Int), .int .u64 ((dg 1 (pr s - 2) : Nat) : Int), .int .u64 ((dg 2 (pr s - 2) : Nat) : Int), .int .u64 ((dg 3 (pr s - 2) : Nat) : Int)]) (vs' := [.int .u64 ((dg 0 (pr s - 2) : Nat) : Int), .int .u64 ((dg 1 (pr s - 2) : Nat) : Int), .int .u64 ((dg 2 (pr s - 2) : Nat) : Int), .int .u64 ((dg 3 (pr s - 2) : Nat) : Int)]) hk hs rfl rfl rfl ty47 rfl rfl rfl rfl rfl rfl fun w hs => ?_
 refine q_v hk (w_as rfl) fun a hk => ?_
 refine c_end (x_t (wS (wR ?_)))
 refine q_v hk (w_mv rfl) fun a hk => ?_
 refine q_v hk (w_ldA rfl ty120 (.blk (n := 14) (hs.mi 3 rfl) rfl) rfl) fun a hk => ?_
 refine q_v hk (w_ldv (z := mq x) rfl ty56 (.blk (n := 4) (hs.mi 2 rfl) rfl)) fun a hk => ?_
 refine q_v hk (w_ldv (z := (pr s - 2)) rfl ty47 (.blk (n := 4) (hs.mi 0 rfl) rfl)) fun a hk => ?_
 have hs := hs.up4
 refine q_call (caps := []) hk rfl rfl Tryz.func180 fo180 rfl rfl (pow_m s x (pr s - 2) t evs _ _ hs hT (Nat.lt_of_le_of_lt (Nat.sub_le _ _) (pr_lt s)) hn) ?_
 rintro _ w ⟨r5, rfl, ht6, hs⟩
 have hT := ht6
 refine ⟨_, rfl, fun a hk => ?_⟩
 have hs := hs.up2
 refine q_sto (o := 0) (cs := [.int .u64 ((dg 0 (mq (pw x (pr s - 2))) : Nat) : Int), .int .u64 ((dg 1 (mq (pw x (pr s - 2))) : Nat) : Int), .int .u64 ((dg 2 (mq (pw x (pr s - 2))) : Nat) : Int), .int .u64 ((dg 3 (mq (pw x (pr s - 2))) : Nat) : Int)]) (vs' := [.int .u64 ((dg 0 (mq (pw x (pr s - 2))) : Nat) : Int), .int .u64 ((dg 1 (mq (pw x (pr s - 2))) : Nat) : Int), .int .u64 ((dg 2 (mq (pw x (pr s - 2))) : Nat) : Int), .int .u64 ((dg 3 (mq (pw x (pr s - 2))) : Nat) : Int)]) hk hs rfl rfl rfl ty56 rfl rfl rfl rfl rfl rfl fun w hs => ?_
 refine c_end (x_t ?_)
 refine (wpIn_ret ?_)
 refine c_retG (vs := [vec (mq (pw x (pr s - 2)))]) hk rfl ⟨⟨_, rfl, lv_A ty56 (.blk (n := 4) (hs.mi 0 rfl) rfl) rfl⟩, trivial⟩ rfl ?_
 have hs := hs.drop
 have hs := hs.up1
 have hs := hs.drop
 have hs := hs.up1
 have hs := hs.drop
 have hs := hs.up1
 have hs := hs.drop
 exact ⟨_, rfl, hT, hs⟩
theorem batch_m {F0 : Nat → Prop} {W : World} {M R : List Res} (s : Bool) (n lc : Nat) (la : Option Addr) (x : Nat → Zp s) (t : Option Nat) (evs : List Ev) (r : Res) (w0 : World) (hs : Sat F0 W (r :: M) R w0) (hT : TapeIs t evs r) (hL : HasR (lst 4 (.slice la n lc) n (en vq (fun i => mq (x i)) n)) R) (h0 : 0 < n) (hn9 : n ≤ 1000000) (hn : evs.length ≤ 1000000000) : Calls Tryz.prog 144 [tval t, fieldV s, .slice la n lc].toArray w0 fun e w => ∃ b r, e = .returned (.slice (some ⟨b, 0, none⟩) n n) ∧ TapeIs t (evs ++ batE n) r ∧ Sat F0 W (r :: blk b (en vq (fun i => mq (binv x n i)) n) 56 :: M) R w := by
 refine c_enterM (args := [tval t, fieldV s, .slice la n lc]) Tryz.func144 rfl rfl rfl fun a hk => ?_
 refine wS (wR ?_)
 refine q_box (vs := fieldL s) hk hs rfl rfl rfl rfl fun b1 w a hk hs => ?_
 refine q_v hk (w_as rfl) fun a hk => ?_
 refine c_end (x_t (wS (wS (wR ?_))))
 refine q_v hk (w_mv rfl) fun a hk => ?_
 refine q_v hk (w_len rfl Tryz.underlying51) fun a hk => ?_
 refine q_v hk (w_eq rfl rfl (decide_eq_false (by omega))) fun a hk => ?_
 refine c_end (x_t ?_)
 refine c_F hk rfl ?_
 refine (wpIn_skip (x_t ?_))
 refine wS (wR ?_)
 refine q_v hk (w_mv rfl) fun a hk => ?_
 refine q_v hk (w_len rfl Tryz.underlying51) fun a hk => ?_
 refine q_mks (k := n) (cs := vq 0) hk hs rfl rfl Tryz.underlying51 ty56 zr56 (by kernel_rfl) rfl rfl rfl rfl (by omega) (by omega) rfl rfl fun b2 w a hk hs => ?_
 have hs := hs.rw0 (show _ = blk b2 (en vq (fun _ => 0) n) 56 from rfl)
 refine q_alc (vs := [.slice none 0 0]) hk hs zr51 rfl rfl rfl fun b3 w a hk hs => ?_
 refine q_sto (o := 0) (cs := [.slice (some ⟨b2, 0, none⟩) n n]) (vs' := [.slice (some ⟨b2, 0, none⟩) n n]) hk hs rfl rfl rfl ty51 rfl rfl rfl rfl rfl rfl fun w hs => ?_
 refine c_end (x_t (wS (wR ?_)))
 refine q_v hk (w_fa rfl fq120_3 ty56) fun a hk => ?_
 refine q_v hk (w_ldv (z := rone s) rfl ty56 (.blk (n := 4) (hs.mi 2 rfl) rfl)) fun a hk => ?_
 refine q_alc (vs := [.int .u64 0, .int .u64 0, .int .u64 0, .int .u64 0]) hk hs zr56 rfl rfl rfl fun b4 w a hk hs => ?_
 refine q_sto (o := 0) (cs := [.int .u64 ((dg 0 (rone s) : Nat) : Int), .int .u64 ((dg 1 (rone s) : Nat) : Int), .int .u64 ((dg 2 (rone s) : Nat) : Int), .int .u64 ((dg 3 (rone s) : Nat) : Int)]) (vs' := [.int .u64 ((dg 0 (rone s) : Nat) : Int), .int .u64 ((dg 1 (rone s) : Nat) : Int), .int .u64 ((dg 2 (rone s) : Nat) : Int), .int .u64 ((dg 3 (rone s) : Nat) : Int)]) hk hs rfl rfl rfl ty56 rfl rfl rfl rfl rfl rfl fun w hs => ?_
 refine c_end (x_t (wS (wS (wR ?_))))
 refine q_v hk (w_mv rfl) fun a hk => ?_
 refine q_v hk (w_mv rfl) fun a hk => ?_
 refine q_call (caps := []) hk rfl rfl Tryz.func164 fo164 rfl rfl (all_c n lc la _) ?_
 rintro _ w ⟨b5, rfl, hS⟩
 have hs := hs.call1 hS
 clear hS
 refine ⟨_, rfl, fun a hk => ?_⟩
 refine q_call (caps := []) hk rfl rfl Tryz.func163 fo163 rfl rfl (rvis_c t (178, [.pointer (some ⟨b5, 0, none⟩)]) _) ?_
 rintro _ w ⟨b6, b7, rfl, hS⟩
 have hs := hs.call2 hS
 clear hS
 refine ⟨_, rfl, fun a hk => ?_⟩
 refine c_end (x_t ?_)
 refine wpIn_block ?_
 have hs := hs.up2
 have hs := Sat.frzL (l := [blk b5 [.slice la n lc] 51]) hs
 have hs := hs.up1
 have hs := hs.up1
 have hs := Sat.frzL (l := [blk b6 [.func (.func 178) #[] #[.pointer (some ⟨b5, 0, none⟩)]] 192, blk b7 [tval t] 60]) hs
 have hs := hs.up2
 have hs := hs.rw0 (congrArg (fun q => blk b2 q 56) (bat1_zero (x := x)))
 have hs := hs.up1
 have hs := hs.rw0 (congrArg (fun q => blk b4 q 56) (pp_zero (x := x)))
 have hk : Kn [] 76 [(26, .func (.func 177) #[] #[.pointer (some ⟨b6, 0, none⟩), .pointer (some ⟨b7, 0, none⟩)]), (8, .pointer (some ⟨b4, 0, none⟩)), (7, .pointer (some ⟨b3, 0, none⟩)), (6, .slice none 0 0), (4, .pointer (some ⟨b1, 0, none⟩)), (0, tval t), (2, .slice la n lc)] a := hk.k rfl (hk.k rfl (hk.k rfl (hk.k rfl (hk.k rfl (hk.k rfl (hk.k rfl hk.nil))))))
 have hs := hs.up4
 have hs := hs.up1
 have hs := hs.up2
 have hs := hs.up3
 have hs := hs.up4
 have hs := Sat.pack (l := [blk b1 (fieldL s) 120, blk b3 [.slice (some ⟨b2, 0, none⟩) n n] 51, blk b2 (en vq (fun i => bat1 x 0 i) n) 56, blk b4 [.int .u64 ((dg 0 (mq (Pp x 0)) : Nat) : Int), .int .u64 ((dg 1 (mq (Pp x 0)) : Nat) : Int), .int .u64 ((dg 2 (mq (Pp x 0)) : Nat) : Int), .int .u64 ((dg 3 (mq (Pp x 0)) : Nat) : Int)] 56]) hs
 refine c_range0 hk hs rfl (⟨_, _, _, rfl, Tryz.func177, fo177, rvis_it t evs (178, [.pointer (some ⟨b5, 0, none⟩)]) (upP n (fun i => mq (x i))) (rall [blk b5 [.slice la n lc] 51, lst 4 (.slice la n lc) n (en vq (fun i => mq (x i)) n)]) b6 b7 ⟨_, _, _, rfl, Tryz.func178, fo178, all_it b5 n lc la (fun i => mq (x i)) (by omega)⟩ (by rw [upP_len]; (try simp only [List.length_append, coefU_len, List.append_assoc]); have hI := inverse_len; omega)⟩) (.rall fun q hq => by simp only [List.mem_cons, List.not_mem_nil, or_false] at hq; rcases hq with rfl | rfl | rfl <;> first | exact (HasR.nth 0 rfl).pi 0 rfl | exact (HasR.nth 0 rfl).pi 1 rfl | exact HasR.two ((HasR.nth 1 rfl).pi 0 rfl) (hL.cons.cons)) (fun _ => rfl) rfl (fun k r => r = bun [blk b1 (fieldL s) 120, blk b3 [.slice (some ⟨b2, 0, none⟩) n n] 51, blk b2 (en vq (fun i => bat1 x k i) n) 56, blk b4 [.int .u64 ((dg 0 (mq (Pp x k)) : Nat) : Int), .int .u64 ((dg 1 (mq (Pp x k)) : Nat) : Int), .int .u64 ((dg 2 (mq (Pp x k)) : Nat) : Int), .int .u64 ((dg 3 (mq (Pp x k)) : Nat) : Int)] 56]) (fun c k r => False) rfl (by rw [List.take_zero, List.map_nil, List.append_nil]; exact hT) ?_ ?_ ?_
 ·
  rintro l8 k8 x8 hx8 LR8 LB8 FR8 hL8 r a w ⟨rfl⟩ hk hs
  obtain ⟨hlt, rfl⟩ := upP_some hx8
  have hk : Kn [] 76 [(28, vec (mq (x k8))), (27, .int .i64 ((k8 : Nat) : Int)), (26, .func (.func 177) #[] #[.pointer (some ⟨b6, 0, none⟩), .pointer (some ⟨b7, 0, none⟩)]), (8, .pointer (some ⟨b4, 0, none⟩)), (7, .pointer (some ⟨b3, 0, none⟩)), (6, .slice none 0 0), (4, .pointer (some ⟨b1, 0, none⟩)), (0, tval t), (2, .slice la n lc)] a := hk
  have hs : Sat F0 W [blk b1 (fieldL s) 120, blk b3 [.slice (some ⟨b2, 0, none⟩) n n] 51, blk b2 (en vq (fun i => bat1 x k8 i) n) 56, blk b4 [.int .u64 ((dg 0 (mq (Pp x k8)) : Nat) : Int), .int .u64 ((dg 1 (mq (Pp x k8)) : Nat) : Int), .int .u64 ((dg 2 (mq (Pp x k8)) : Nat) : Int), .int .u64 ((dg 3 (mq (Pp x k8)) : Nat) : Int)] 56, LR8, FR8] ((rall [blk b6 [.func (.func 178) #[] #[.pointer (some ⟨b5, 0, none⟩)]] 192, blk b7 [tval t] 60]) :: (rall [blk b5 [.slice la n lc] 51]) :: R) w := hs.unpack
  refine wS (wR ?_)
  refine q_v hk (w_as rfl) fun a hk => ?_
  refine c_end (x_t (wR ?_))
  refine q_alc (vs := [.int .u64 0, .int .u64 0, .int .u64 0, .int .u64 0]) hk hs zr56 rfl rfl rfl fun b9 w a hk hs => ?_
  refine q_sto (o := 0) (cs := [.int .u64 ((dg 0 (mq (x k8)) : Nat) : Int), .int .u64 ((dg 1 (mq (x k8)) : Nat) : Int), .int .u64 ((dg 2 (mq (x k8)) : Nat) : Int), .int .u64 ((dg 3 (mq (x k8)) : Nat) : Int)]) (vs' := [.int .u64 ((dg 0 (mq (x k8)) : Nat) : Int), .int .u64 ((dg 1 (mq (x k8)) : Nat) : Int), .int .u64 ((dg 2 (mq (x k8)) : Nat) : Int), .int .u64 ((dg 3 (mq (x k8)) : Nat) : Int)]) hk hs rfl rfl rfl ty56 rfl rfl rfl rfl rfl rfl fun w hs => ?_
  refine c_end (x_t ?_)
  have hs := hs.up5
  refine hL8.begin_ hs fun w hs => ?_
  refine wpIn_block ?_
  refine wS (wR ?_)
  refine q_v hk (w_ld1 rfl ty51 (.blk (n := 1) (hs.mi 3 rfl) rfl)) fun a hk => ?_
  refine q_v hk (w_mv rfl) fun a hk => ?_
  refine q_v hk (w_ldv (z := (mq (Pp x k8))) rfl ty56 (.blk (n := 4) (hs.mi 5 rfl) rfl)) fun a hk => ?_
  refine q_v hk (w_iaL (k := k8) rfl rfl Tryz.underlying51 ty56 (blk_lst (hs.mi 4 rfl) (en_len vq_len) (Nat.le_refl _)) (by omega) (by omega)) fun a hk => ?_
  have hs := hs.up4
  refine q_stoE (c := vq) (xx := (mq (Pp x k8))) (k := k8) hk hs rfl rfl rfl ty56 rfl vq_len rfl (by omega) rfl fun w hs => ?_
  refine c_end (x_t ?_)
  have hL := okL.cons (hs.mi 3 rfl) (okL.cons (hs.mi 2 rfl) okL.nil)
  refine d_begin _ 10 (by kernel_rfl) rfl hs hL fun w hs hL => ?_
  refine d_join (n2 := 2) 255 (fun a w => Kn [] 76 [(40, vec (if (decide ((x k8) = 0)) then rone s else mq (x k8))), (36, .int .u64 (am (decide ((x k8) = 0)))), (34, vec (mq (Pp x k8))), (39, vec (mq (x k8))), (38, vec (rone s)), (37, .pointer (some ⟨b1, 6, none⟩)), (35, vec (mq (x k8))), (33, fieldV s), (32, .pointer (some ((adq (some ⟨b2, 0, none⟩)).add (k8 * 4)))), (31, vec (mq (Pp x k8))), (30, .int .i64 ((k8 : Nat) : Int)), (29, .slice (some ⟨b2, 0, none⟩) n n), (10, .pointer (some ⟨b9, 0, none⟩)), (9, .int .i64 ((k8 : Nat) : Int)), (28, vec (mq (x k8))), (27, .int .i64 ((k8 : Nat) : Int)), (26, .func (.func 177) #[] #[.pointer (some ⟨b6, 0, none⟩), .pointer (some ⟨b7, 0, none⟩)]), (8, .pointer (some ⟨b4, 0, none⟩)), (7, .pointer (some ⟨b3, 0, none⟩)), (6, .slice none 0 0), (4, .pointer (some ⟨b1, 0, none⟩)), (0, tval t), (2, .slice la n lc)] a ∧ Sat F0 W [blk b2 (en vq (fun i => (if i = k8 then (mq (Pp x k8)) else bat1 x k8 i)) n) 56, LB8, blk b9 [.int .u64 ((dg 0 (mq (x k8)) : Nat) : Int), .int .u64 ((dg 1 (mq (x k8)) : Nat) : Int), .int .u64 ((dg 2 (mq (x k8)) : Nat) : Int), .int .u64 ((dg 3 (mq (x k8)) : Nat) : Int)] 56, blk b1 (fieldL s) 120, blk b3 [.slice (some ⟨b2, 0, none⟩) n n] 51, blk b4 [.int .u64 ((dg 0 (mq (Pp x k8)) : Nat) : Int), .int .u64 ((dg 1 (mq (Pp x k8)) : Nat) : Int), .int .u64 ((dg 2 (mq (Pp x k8)) : Nat) : Int), .int .u64 ((dg 3 (mq (Pp x k8)) : Nat) : Int)] 56, FR8] ((rall [blk b6 [.func (.func 178) #[] #[.pointer (some ⟨b5, 0, none⟩)]] 192, blk b7 [tval t] 60]) :: (rall [blk b5 [.slice la n lc] 51]) :: R) w ∧ okL [blk b1 (fieldL s) 120, blk b9 [.int .u64 ((dg 0 (mq (x k8)) : Nat) : Int), .int .u64 ((dg 1 (mq (x k8)) : Nat) : Int), .int .u64 ((dg 2 (mq (x k8)) : Nat) : Int), .int .u64 ((dg 3 (mq (x k8)) : Nat) : Int)] 56] w) ?_ ?_
  ·
   intro hJ255
   refine d_join (n2 := 3) 127 (fun a w => Kn [] 76 [(36, .int .u64 (am (decide ((x k8) = 0)))), (34, vec (mq (Pp x k8))), (39, vec (mq (x k8))), (38, vec (rone s)), (37, .pointer (some ⟨b1, 6, none⟩)), (35, vec (mq (x k8))), (33, fieldV s), (32, .pointer (some ((adq (some ⟨b2, 0, none⟩)).add (k8 * 4)))), (31, vec (mq (Pp x k8))), (30, .int .i64 ((k8 : Nat) : Int)), (29, .slice (some ⟨b2, 0, none⟩) n n), (10, .pointer (some ⟨b9, 0, none⟩)), (9, .int .i64 ((k8 : Nat) : Int)), (28, vec (mq (x k8))), (27, .int .i64 ((k8 : Nat) : Int)), (26, .func (.func 177) #[] #[.pointer (some ⟨b6, 0, none⟩), .pointer (some ⟨b7, 0, none⟩)]), (8, .pointer (some ⟨b4, 0, none⟩)), (7, .pointer (some ⟨b3, 0, none⟩)), (6, .slice none 0 0), (4, .pointer (some ⟨b1, 0, none⟩)), (0, tval t), (2, .slice la n lc)] a ∧ Sat F0 W [blk b2 (en vq (fun i => (if i = k8 then (mq (Pp x k8)) else bat1 x k8 i)) n) 56, LB8, blk b9 [.int .u64 ((dg 0 (mq (x k8)) : Nat) : Int), .int .u64 ((dg 1 (mq (x k8)) : Nat) : Int), .int .u64 ((dg 2 (mq (x k8)) : Nat) : Int), .int .u64 ((dg 3 (mq (x k8)) : Nat) : Int)] 56, blk b1 (fieldL s) 120, blk b3 [.slice (some ⟨b2, 0, none⟩) n n] 51, blk b4 [.int .u64 ((dg 0 (mq (Pp x k8)) : Nat) : Int), .int .u64 ((dg 1 (mq (Pp x k8)) : Nat) : Int), .int .u64 ((dg 2 (mq (Pp x k8)) : Nat) : Int), .int .u64 ((dg 3 (mq (Pp x k8)) : Nat) : Int)] 56, FR8] ((rall [blk b6 [.func (.func 178) #[] #[.pointer (some ⟨b5, 0, none⟩)]] 192, blk b7 [tval t] 60]) :: (rall [blk b5 [.slice la n lc] 51]) :: R) w ∧ okL [blk b1 (fieldL s) 120, blk b9 [.int .u64 ((dg 0 (mq (x k8)) : Nat) : Int), .int .u64 ((dg 1 (mq (x k8)) : Nat) : Int), .int .u64 ((dg 2 (mq (x k8)) : Nat) : Int), .int .u64 ((dg 3 (mq (x k8)) : Nat) : Int)] 56] w) ?_ ?_
   ·
    intro hJ127
    refine d_w 0 1 hk hL rfl (fun w hL => w_ldA rfl ty120 (.blk (n := 14) (hL.at 0 rfl) rfl) rfl) fun a hk => ?_
    refine d_w 2 5 hk hL rfl (fun w hL => w_ldv (z := mq (x k8)) rfl ty56 (.blk (n := 4) (hL.at 1 rfl) rfl)) fun a hk => ?_
    refine d_w 4 21 hk hL rfl (fun w hL => w_fa rfl fq120_3 ty56) fun a hk => ?_
    refine d_w 5 53 hk hL rfl (fun w hL => w_ldv (z := rone s) rfl ty56 (.blk (n := 4) (hL.at 0 rfl) rfl)) fun a hk => ?_
    refine d_w 6 117 hk hL rfl (fun w hL => w_ldv (z := mq (x k8)) rfl ty56 (.blk (n := 4) (hL.at 1 rfl) rfl)) fun a hk => ?_
    refine d_2 1 3 119 125 rfl rfl (by kernel_rfl) (fun K hK => ?_) (fun K hK => ?_)
    ·
     refine q_v hk (w_ldv (z := (mq (Pp x k8))) rfl ty56 (.blk (n := 4) (hs.mi 5 rfl) rfl)) fun a hk => ?_
     have hL := okL.cons (hs.mi 3 rfl) (okL.cons (hs.mi 2 rfl) okL.nil)
     refine c_end (x_t (hK _ _ hL ?_))
     clear hK K
     refine d_1 3 127 rfl (by kernel_rfl) fun K hK => ?_
     refine q_call (caps := []) hk rfl rfl Tryz.func166 fo166 rfl rfl (zisz_c (s := s) (x := (x k8)) _ rfl) ?_
     rintro _ w ⟨rfl, hb⟩
     have hs := hs.below hb
     refine ⟨_, rfl, fun a hk => ?_⟩
     have hL := okL.cons (hs.mi 3 rfl) (okL.cons (hs.mi 2 rfl) okL.nil)
     refine c_end (x_t (hK _ _ hL ?_))
     clear hK K
     have hL := okL.cons (hs.mi 3 rfl) (okL.cons (hs.mi 2 rfl) okL.nil)
     exact hJ127 _ _ ⟨hk.k rfl (hk.k rfl (hk.k rfl (hk.k rfl (hk.k rfl (hk.k rfl (hk.k rfl (hk.k rfl (hk.k rfl (hk.k rfl (hk.k rfl (hk.k rfl (hk.k rfl (hk.k rfl (hk.k rfl (hk.k rfl (hk.k rfl (hk.k rfl (hk.k rfl (hk.k rfl (hk.k rfl (hk.k rfl hk.nil))))))))))))))))))))), hs, hL⟩
    ·
     refine q_call (caps := []) hk rfl rfl Tryz.func166 fo166 rfl rfl (zisz_c (s := s) (x := (x k8)) _ rfl) ?_
     rintro _ w ⟨rfl, hb⟩
     have hs := hs.below hb
     refine ⟨_, rfl, fun a hk => ?_⟩
     have hL := okL.cons (hs.mi 3 rfl) (okL.cons (hs.mi 2 rfl) okL.nil)
     refine c_end (x_t (hK _ _ hL ?_))
     clear hK K
     refine d_2 1 7 127 253 rfl rfl (by kernel_rfl) (fun K hK => ?_) (fun K hK => ?_)
     ·
      refine q_v hk (w_ldv (z := (mq (Pp x k8))) rfl ty56 (.blk (n := 4) (hs.mi 5 rfl) rfl)) fun a hk => ?_
      have hL := okL.cons (hs.mi 3 rfl) (okL.cons (hs.mi 2 rfl) okL.nil)
      refine c_end (x_t (hK _ _ hL ?_))
      clear hK K
      have hL := okL.cons (hs.mi 3 rfl) (okL.cons (hs.mi 2 rfl) okL.nil)
      exact hJ127 _ _ ⟨hk.k rfl (hk.k rfl (hk.k rfl (hk.k rfl (hk.k rfl (hk.k rfl (hk.k rfl (hk.k rfl (hk.k rfl (hk.k rfl (hk.k rfl (hk.k rfl (hk.k rfl (hk.k rfl (hk.k rfl (hk.k rfl (hk.k rfl (hk.k rfl (hk.k rfl (hk.k rfl (hk.k rfl (hk.k rfl hk.nil))))))))))))))))))))), hs, hL⟩
     ·
      refine q_call (caps := []) hk rfl rfl Tryz.func165 fo165 rfl rfl (zchoose_c _ (decide ((x k8) = 0)) rfl (rone_lt4 s) (mq_lt4 _)) ?_
      rintro _ w ⟨rfl, hb⟩
      have hs := hs.below hb
      refine ⟨_, rfl, fun a hk => ?_⟩
      have hL := okL.cons (hs.mi 3 rfl) (okL.cons (hs.mi 2 rfl) okL.nil)
      refine c_end (x_t (hK _ _ hL ?_))
      clear hK K
      refine d_1 1 255 rfl (by kernel_rfl) fun K hK => ?_
      refine q_v hk (w_ldv (z := (mq (Pp x k8))) rfl ty56 (.blk (n := 4) (hs.mi 5 rfl) rfl)) fun a hk => ?_
      have hL := okL.cons (hs.mi 3 rfl) (okL.cons (hs.mi 2 rfl) okL.nil)
      refine c_end (x_t (hK _ _ hL ?_))
      clear hK K
      have hL := okL.cons (hs.mi 3 rfl) (okL.cons (hs.mi 2 rfl) okL.nil)
      exact hJ255 _ _ ⟨hk.k rfl (hk.k rfl (hk.k rfl (hk.k rfl (hk.k rfl (hk.k rfl (hk.k rfl (hk.k rfl (hk.k rfl (hk.k rfl (hk.k rfl (hk.k rfl (hk.k rfl (hk.k rfl (hk.k rfl (hk.k rfl (hk.k rfl (hk.k rfl (hk.k rfl (hk.k rfl (hk.k rfl (hk.k rfl (hk.k rfl hk.nil)))))))))))))))))))))), hs, hL⟩
   ·
    rintro a w ⟨hk, hs, hL⟩
    refine d_1 7 255 rfl (by kernel_rfl) fun K hK => ?_
    refine q_call (caps := []) hk rfl rfl Tryz.func165 fo165 rfl rfl (zchoose_c _ (decide ((x k8) = 0)) rfl (rone_lt4 s) (mq_lt4 _)) ?_
    rintro _ w ⟨rfl, hb⟩
    have hs := hs.below hb
    refine ⟨_, rfl, fun a hk => ?_⟩
    have hL := okL.cons (hs.mi 3 rfl) (okL.cons (hs.mi 2 rfl) okL.nil)
    refine c_end (x_t (hK _ _ hL ?_))
    clear hK K
    have hL := okL.cons (hs.mi 3 rfl) (okL.cons (hs.mi 2 rfl) okL.nil)
    exact hJ255 _ _ ⟨hk.k rfl (hk.k rfl (hk.k rfl (hk.k rfl (hk.k rfl (hk.k rfl (hk.k rfl (hk.k rfl (hk.k rfl (hk.k rfl (hk.k rfl (hk.k rfl (hk.k rfl (hk.k rfl (hk.k rfl (hk.k rfl (hk.k rfl (hk.k rfl (hk.k rfl (hk.k rfl (hk.k rfl (hk.k rfl (hk.k rfl hk.nil)))))))))))))))))))))), hs, hL⟩
  ·
   rintro a w ⟨hk, hs, hL⟩
   refine d_1 8 511 rfl (by kernel_rfl) fun K hK => ?_
   refine q_call (caps := []) hk rfl rfl Tryz.func120 fo120 rfl rfl (zmul_c (x := (Pp x k8)) (y := (nz (x k8))) _ rfl (nz_ch _)) ?_
   rintro _ w ⟨rfl, hb⟩
   have hs := hs.below hb
   refine ⟨_, rfl, fun a hk => ?_⟩
   have hL := okL.cons (hs.mi 3 rfl) (okL.cons (hs.mi 2 rfl) okL.nil)
   refine c_end (x_t (hK _ _ hL ?_))
   clear hK K
   refine d_1 9 1023 rfl (by kernel_rfl) fun K hK => ?_
   have hs := hs.up5
   refine q_sto (o := 0) (cs := [.int .u64 ((dg 0 (mq ((Pp x k8) * (nz (x k8)))) : Nat) : Int), .int .u64 ((dg 1 (mq ((Pp x k8) * (nz (x k8)))) : Nat) : Int), .int .u64 ((dg 2 (mq ((Pp x k8) * (nz (x k8)))) : Nat) : Int), .int .u64 ((dg 3 (mq ((Pp x k8) * (nz (x k8)))) : Nat) : Int)]) (vs' := [.int .u64 ((dg 0 (mq ((Pp x k8) * (nz (x k8)))) : Nat) : Int), .int .u64 ((dg 1 (mq ((Pp x k8) * (nz (x k8)))) : Nat) : Int), .int .u64 ((dg 2 (mq ((Pp x k8) * (nz (x k8)))) : Nat) : Int), .int .u64 ((dg 3 (mq ((Pp x k8) * (nz (x k8)))) : Nat) : Int)]) hk hs rfl rfl rfl ty56 rfl rfl rfl rfl rfl rfl fun w hs => ?_
   have hL := okL.cons (hs.mi 4 rfl) (okL.cons (hs.mi 3 rfl) okL.nil)
   refine c_end (x_t (hK _ _ hL ?_))
   clear hK K
   refine d_end (by kernel_rfl) ?_
   refine (x_b ?_)
   have hs := hs.up1
   have hs := hs.rw0 (congrArg (fun q => blk b2 q 56) bat1_step)
   have hs := hs.up3
   have hs := hs.drop
   have hs := hs.up5
   have hs := hs.up3
   have hs := hs.up3
   have hs := hs.up3
   have hs := hs.up5
   have hs := hs.up5
   exact ⟨_, rfl, Sat.pack (l := [_, _, _, _]) hs⟩
 ·
  intro D8 r r8 a w hJ hK hk hs
  rw [upP_len] at hJ hK
  obtain ⟨rfl⟩ := hJ
  have hs := Sat.unpack (l := [blk b1 (fieldL s) 120, blk b3 [.slice (some ⟨b2, 0, none⟩) n n] 51, blk b2 (en vq (fun i => bat1 x n i) n) 56, blk b4 [.int .u64 ((dg 0 (mq (Pp x n)) : Nat) : Int), .int .u64 ((dg 1 (mq (Pp x n)) : Nat) : Int), .int .u64 ((dg 2 (mq (Pp x n)) : Nat) : Int), .int .u64 ((dg 3 (mq (Pp x n)) : Nat) : Int)] 56]) hs.up1
  have hT := hK
  rw [upP_coef] at hT
  have hT : TapeIs t (evs ++ upE 0 (n : Int) coefE) r8 := hT
  have hs : Sat F0 W ((blk b1 (fieldL s) 120) :: (blk b3 [.slice (some ⟨b2, 0, none⟩) n n] 51) :: (blk b2 (en vq (fun i => bat1 x n i) n) 56) :: (blk b4 [.int .u64 ((dg 0 (mq (Pp x n)) : Nat) : Int), .int .u64 ((dg 1 (mq (Pp x n)) : Nat) : Int), .int .u64 ((dg 2 (mq (Pp x n)) : Nat) : Int), .int .u64 ((dg 3 (mq (Pp x n)) : Nat) : Int)] 56) :: (dres D8) :: r8 :: M) ((rall [blk b6 [.func (.func 178) #[] #[.pointer (some ⟨b5, 0, none⟩)]] 192, blk b7 [tval t] 60]) :: (rall [blk b5 [.slice la n lc] 51]) :: R) w := hs
  refine (x_b (x_t ?_))
  refine wS (wR ?_)
  refine q_v hk (w_mv rfl) fun a hk => ?_
  refine q_v hk (w_ldA rfl ty120 (.blk (n := 14) (hs.mi 0 rfl) rfl) rfl) fun a hk => ?_
  refine q_v hk (w_ldv (z := (mq (Pp x n))) rfl ty56 (.blk (n := 4) (hs.mi 3 rfl) rfl)) fun a hk => ?_
  have hs := hs.up5
  refine q_call (caps := []) hk rfl rfl Tryz.func167 fo167 rfl rfl (inv_m s (Pp x n) t (evs ++ upE 0 (n : Int) coefE) _ _ hs hT (by (try simp only [List.length_append, coefU_len]); omega)) ?_
  rintro _ w ⟨r10, rfl, ht11, hs⟩
  have hT := ht11
  refine ⟨_, rfl, fun a hk => ?_⟩
  refine q_alc (vs := [.int .u64 0, .int .u64 0, .int .u64 0, .int .u64 0]) hk hs zr56 rfl rfl rfl fun b12 w a hk hs => ?_
  refine q_sto (o := 0) (cs := [.int .u64 ((dg 0 (mq (zinv (Pp x n))) : Nat) : Int), .int .u64 ((dg 1 (mq (zinv (Pp x n))) : Nat) : Int), .int .u64 ((dg 2 (mq (zinv (Pp x n))) : Nat) : Int), .int .u64 ((dg 3 (mq (zinv (Pp x n))) : Nat) : Int)]) (vs' := [.int .u64 ((dg 0 (mq (zinv (Pp x n))) : Nat) : Int), .int .u64 ((dg 1 (mq (zinv (Pp x n))) : Nat) : Int), .int .u64 ((dg 2 (mq (zinv (Pp x n))) : Nat) : Int), .int .u64 ((dg 3 (mq (zinv (Pp x n))) : Nat) : Int)]) hk hs rfl rfl rfl ty56 rfl rfl rfl rfl rfl rfl fun w hs => ?_
  refine c_end (x_t (wS (wS (wR ?_))))
  refine q_v hk (w_mv rfl) fun a hk => ?_
  refine q_v hk (w_mv rfl) fun a hk => ?_
  refine q_call (caps := []) hk rfl rfl Tryz.func148 fo148 rfl rfl (back_c n lc la _) ?_
  rintro _ w ⟨b13, rfl, hS⟩
  have hs := hs.call1 hS
  clear hS
  refine ⟨_, rfl, fun a hk => ?_⟩
  refine q_call (caps := []) hk rfl rfl Tryz.func163 fo163 rfl rfl (rvis_c t (169, [.pointer (some ⟨b13, 0, none⟩)]) _) ?_
  rintro _ w ⟨b14, b15, rfl, hS⟩
  have hs := hs.call2 hS
  clear hS
  refine ⟨_, rfl, fun a hk => ?_⟩
  refine c_end (x_t ?_)
  refine wpIn_block ?_
  have hs := hs.up2
  have hs := Sat.frzL (l := [blk b13 [.slice la n lc] 51]) hs
  have hs := hs.up1
  have hs := hs.up1
  have hs := Sat.frzL (l := [blk b14 [.func (.func 169) #[] #[.pointer (some ⟨b13, 0, none⟩)]] 192, blk b15 [tval t] 60]) hs
  have hs := hs.up4
  have hs := hs.rw0 (congrArg (fun q => blk b2 q 56) bat2_zero)
  have hs := hs.up1
  have hs := hs.rw0 (show _ = blk b12 (vq (mq (Iv x n 0))) 56 from rfl)
  have hk : Kn [D8] 76 [(49, .func (.func 177) #[] #[.pointer (some ⟨b14, 0, none⟩), .pointer (some ⟨b15, 0, none⟩)]), (11, .pointer (some ⟨b12, 0, none⟩)), (7, .pointer (some ⟨b3, 0, none⟩)), (6, .slice none 0 0), (4, .pointer (some ⟨b1, 0, none⟩))] a := hk.k rfl (hk.k rfl (hk.k rfl (hk.k rfl (hk.k rfl hk.nil))))
  have hs := hs.up2
  have hs := hs.up1
  have hs := hs.up2
  have hs := hs.up4
  have hs := hs.up4
  have hs := Sat.pack (l := [blk b1 (fieldL s) 120, blk b3 [.slice (some ⟨b2, 0, none⟩) n n] 51, blk b2 (en vq (fun i => bat2 x n 0 i) n) 56, blk b12 [.int .u64 ((dg 0 (mq (Iv x n 0)) : Nat) : Int), .int .u64 ((dg 1 (mq (Iv x n 0)) : Nat) : Int), .int .u64 ((dg 2 (mq (Iv x n 0)) : Nat) : Int), .int .u64 ((dg 3 (mq (Iv x n 0)) : Nat) : Int)] 56]) hs
  refine c_range0 hk hs rfl (⟨_, _, _, rfl, Tryz.func177, fo177, rvis_it t ((evs ++ upE 0 (n : Int) coefE) ++ inverseE) (169, [.pointer (some ⟨b13, 0, none⟩)]) (dnP n (fun i => mq (x i))) (rall [blk b13 [.slice la n lc] 51, lst 4 (.slice la n lc) n (en vq (fun i => mq (x i)) n)]) b14 b15 ⟨_, _, _, rfl, Tryz.func169, fo169, back_it b13 n lc la (fun i => mq (x i)) (by omega)⟩ (by rw [dnP_len]; (try simp only [List.length_append, coefU_len, List.append_assoc]); have hI := inverse_len; omega)⟩) (.rall fun q hq => by simp only [List.mem_cons, List.not_mem_nil, or_false] at hq; rcases hq with rfl | rfl | rfl <;> first | exact (HasR.nth 0 rfl).pi 0 rfl | exact (HasR.nth 0 rfl).pi 1 rfl | exact HasR.two ((HasR.nth 1 rfl).pi 0 rfl) (hL.cons.cons.cons.cons)) (fun _ => rfl) rfl (fun k r => r = bun [blk b1 (fieldL s) 120, blk b3 [.slice (some ⟨b2, 0, none⟩) n n] 51, blk b2 (en vq (fun i => bat2 x n k i) n) 56, blk b12 [.int .u64 ((dg 0 (mq (Iv x n k)) : Nat) : Int), .int .u64 ((dg 1 (mq (Iv x n k)) : Nat) : Int), .int .u64 ((dg 2 (mq (Iv x n k)) : Nat) : Int), .int .u64 ((dg 3 (mq (Iv x n k)) : Nat) : Int)] 56]) (fun c k r => False) rfl (by rw [List.take_zero, List.map_nil, List.append_nil]; exact hT) ?_ ?_ ?_
  ·
   rintro l16 k16 x16 hx16 LR16 LB16 FR16 hL16 r a w ⟨rfl⟩ hk hs
   obtain ⟨hlt, rfl⟩ := dnP_some hx16
   have hk : Kn [] 76 [(51, vec (mq (x (n - 1 - k16)))), (50, .int .i64 ((n - 1 - k16 : Nat) : Int)), (49, .func (.func 177) #[] #[.pointer (some ⟨b14, 0, none⟩), .pointer (some ⟨b15, 0, none⟩)]), (11, .pointer (some ⟨b12, 0, none⟩)), (7, .pointer (some ⟨b3, 0, none⟩)), (6, .slice none 0 0), (4, .pointer (some ⟨b1, 0, none⟩))] a := hk
   have hs : Sat F0 W [blk b1 (fieldL s) 120, blk b3 [.slice (some ⟨b2, 0, none⟩) n n] 51, blk b2 (en vq (fun i => bat2 x n k16 i) n) 56, blk b12 [.int .u64 ((dg 0 (mq (Iv x n k16)) : Nat) : Int), .int .u64 ((dg 1 (mq (Iv x n k16)) : Nat) : Int), .int .u64 ((dg 2 (mq (Iv x n k16)) : Nat) : Int), .int .u64 ((dg 3 (mq (Iv x n k16)) : Nat) : Int)] 56, LR16, FR16] ((rall [blk b14 [.func (.func 169) #[] #[.pointer (some ⟨b13, 0, none⟩)]] 192, blk b15 [tval t] 60]) :: (rall [blk b13 [.slice la n lc] 51]) :: (rall [blk b6 [.func (.func 178) #[] #[.pointer (some ⟨b5, 0, none⟩)]] 192, blk b7 [tval t] 60]) :: (rall [blk b5 [.slice la n lc] 51]) :: R) w := hs.unpack
   refine wS (wR ?_)
   refine q_v hk (w_as rfl) fun a hk => ?_
   refine c_end (x_t (wR ?_))
   refine q_alc (vs := [.int .u64 0, .int .u64 0, .int .u64 0, .int .u64 0]) hk hs zr56 rfl rfl rfl fun b17 w a hk hs => ?_
   refine q_sto (o := 0) (cs := [.int .u64 ((dg 0 (mq (x (n - 1 - k16))) : Nat) : Int), .int .u64 ((dg 1 (mq (x (n - 1 - k16))) : Nat) : Int), .int .u64 ((dg 2 (mq (x (n - 1 - k16))) : Nat) : Int), .int .u64 ((dg 3 (mq (x (n - 1 - k16))) : Nat) : Int)]) (vs' := [.int .u64 ((dg 0 (mq (x (n - 1 - k16))) : Nat) : Int), .int .u64 ((dg 1 (mq (x (n - 1 - k16))) : Nat) : Int), .int .u64 ((dg 2 (mq (x (n - 1 - k16))) : Nat) : Int), .int .u64 ((dg 3 (mq (x (n - 1 - k16))) : Nat) : Int)]) hk hs rfl rfl rfl ty56 rfl rfl rfl rfl rfl rfl fun w hs => ?_
   refine c_end (x_t ?_)
   have hs := hs.up5
   refine hL16.begin_ hs fun w hs => ?_
   refine wpIn_block ?_
   refine wS (wR ?_)
   refine q_v hk (w_ldv (z := mq (x (n - 1 - k16))) rfl ty56 (.blk (n := 4) (hs.mi 1 rfl) rfl)) fun a hk => ?_
   refine q_call (caps := []) hk rfl rfl Tryz.func166 fo166 rfl rfl (zisz_c (s := s) (x := (x (n - 1 - k16))) _ rfl) ?_
   rintro _ w ⟨rfl, hb⟩
   have hs := hs.below hb
   refine ⟨_, rfl, fun a hk => ?_⟩
   refine q_v hk (w_as rfl) fun a hk => ?_
   refine c_end (x_t (wS ?_))
   have hL := okL.cons (hs.mi 3 rfl) (okL.cons (hs.mi 2 rfl) (okL.cons (hs.mi 5 rfl) okL.nil))
   refine d_begin _ 14 (by kernel_rfl) rfl hs hL fun w hs hL => ?_
   refine d_w 0 1 hk hL rfl (fun w hL => w_ld1 rfl ty51 (.blk (n := 1) (hL.at 0 rfl) rfl)) fun a hk => ?_
   refine d_w 1 3 hk hL rfl (fun w hL => w_mv rfl) fun a hk => ?_
   refine d_w 2 7 hk hL rfl (fun w hL => w_mv rfl) fun a hk => ?_
   refine d_w 3 15 hk hL rfl (fun w hL => w_bldv0 Tryz.underlying56 ty46 zr56) fun a hk => ?_
   refine d_w 4 31 hk hL rfl (fun w hL => w_ldA rfl ty120 (.blk (n := 14) (hL.at 1 rfl) rfl) rfl) fun a hk => ?_
   refine d_w 5 63 hk hL rfl (fun w hL => w_ld1 rfl ty51 (.blk (n := 1) (hL.at 0 rfl) rfl)) fun a hk => ?_
   refine d_w 6 127 hk hL rfl (fun w hL => w_mv rfl) fun a hk => ?_
   refine d_w 9 639 hk hL rfl (fun w hL => w_ldv (z := mq (Iv x n k16)) rfl ty56 (.blk (n := 4) (hL.at 2 rfl) rfl)) fun a hk => ?_
   refine d_1 7 767 rfl (by kernel_rfl) fun K hK => ?_
   refine q_v hk (w_iaL (k := n - 1 - k16) rfl rfl Tryz.underlying51 ty56 (blk_lst (hs.mi 4 rfl) (en_len vq_len) (Nat.le_refl _)) (by omega) (by omega)) fun a hk => ?_
   have hL := okL.cons (hs.mi 3 rfl) (okL.cons (hs.mi 2 rfl) (okL.cons (hs.mi 5 rfl) okL.nil))
   refine c_end (x_t (hK _ _ hL ?_))
   clear hK K
   refine d_1 8 1023 rfl (by kernel_rfl) fun K hK => ?_
   refine q_v hk (w_ldv (z := mq (Pp x (n - 1 - k16))) rfl ty56 (vq_eq (bat2_at hlt) (lstq (k := n - 1 - k16) (blk_lst (hs.mi 4 rfl) (en_len vq_len) (Nat.le_refl _)) (by omega) (en_chunk vq_len (by omega))))) fun a hk => ?_
   have hL := okL.cons (hs.mi 3 rfl) (okL.cons (hs.mi 2 rfl) (okL.cons (hs.mi 5 rfl) okL.nil))
   refine c_end (x_t (hK _ _ hL ?_))
   clear hK K
   refine d_1 10 2047 rfl (by kernel_rfl) fun K hK => ?_
   refine q_call (caps := []) hk rfl rfl Tryz.func120 fo120 rfl rfl (zmul_c (x := (Pp x (n - 1 - k16))) (y := (Iv x n k16)) _ rfl rfl) ?_
   rintro _ w ⟨rfl, hb⟩
   have hs := hs.below hb
   refine ⟨_, rfl, fun a hk => ?_⟩
   have hL := okL.cons (hs.mi 3 rfl) (okL.cons (hs.mi 2 rfl) (okL.cons (hs.mi 5 rfl) okL.nil))
   refine c_end (x_t (hK _ _ hL ?_))
   clear hK K
   refine d_1 11 4095 rfl (by kernel_rfl) fun K hK => ?_
   refine q_call (caps := []) hk rfl rfl Tryz.func165 fo165 rfl rfl (zchoose_c _ (decide ((x (n - 1 - k16)) = 0)) rfl (by decide) (mq_lt4 _)) ?_
   rintro _ w ⟨rfl, hb⟩
   have hs := hs.below hb
   refine ⟨_, rfl, fun a hk => ?_⟩
   have hL := okL.cons (hs.mi 3 rfl) (okL.cons (hs.mi 2 rfl) (okL.cons (hs.mi 5 rfl) okL.nil))
   refine c_end (x_t (hK _ _ hL ?_))
   clear hK K
   refine d_1 12 8191 rfl (by kernel_rfl) fun K hK => ?_
   refine q_v hk (w_iaL (k := n - 1 - k16) rfl rfl Tryz.underlying51 ty56 (blk_lst (hs.mi 4 rfl) (en_len vq_len) (Nat.le_refl _)) (by omega) (by omega)) fun a hk => ?_
   have hL := okL.cons (hs.mi 3 rfl) (okL.cons (hs.mi 2 rfl) (okL.cons (hs.mi 5 rfl) okL.nil))
   refine c_end (x_t (hK _ _ hL ?_))
   clear hK K
   refine d_1 13 16383 rfl (by kernel_rfl) fun K hK => ?_
   have hs := hs.up4
   refine q_stoE (c := vq) (xx := (if (decide ((x (n - 1 - k16)) = 0)) then 0 else mq ((Pp x (n - 1 - k16)) * (Iv x n k16)))) (k := (n - 1 - k16)) hk hs rfl rfl rfl ty56 rfl vq_len rfl (by omega) rfl fun w hs => ?_
   have hL := okL.cons (hs.mi 4 rfl) (okL.cons (hs.mi 3 rfl) (okL.cons (hs.mi 5 rfl) okL.nil))
   refine c_end (x_t (hK _ _ hL ?_))
   clear hK K
   refine d_end (by kernel_rfl) ?_
   refine (x_t ?_)
   have hL := okL.cons (hs.mi 3 rfl) (okL.cons (hs.mi 2 rfl) okL.nil)
   refine d_begin _ 9 (by kernel_rfl) rfl hs hL fun w hs hL => ?_
   refine d_join (n2 := 2) 127 (fun a w => Kn [] 76 [(73, vec (if (decide ((x (n - 1 - k16)) = 0)) then rone s else mq (x (n - 1 - k16)))), (68, vec (mq (Iv x n k16))), (72, vec (mq (x (n - 1 - k16)))), (71, vec (rone s)), (70, .pointer (some ⟨b1, 6, none⟩)), (69, .int .u64 (am (decide ((x (n - 1 - k16)) = 0)))), (67, fieldV s), (66, .pointer (some ((adq (some ⟨b2, 0, none⟩)).add ((n - 1 - k16) * 4)))), (65, vec (if (decide ((x (n - 1 - k16)) = 0)) then 0 else mq ((Pp x (n - 1 - k16)) * (Iv x n k16)))), (64, vec (mq ((Pp x (n - 1 - k16)) * (Iv x n k16)))), (62, vec (mq (Pp x (n - 1 - k16)))), (61, .pointer (some ((adq (some ⟨b2, 0, none⟩)).add ((n - 1 - k16) * 4)))), (63, vec (mq (Iv x n k16))), (60, .int .i64 ((n - 1 - k16 : Nat) : Int)), (59, .slice (some ⟨b2, 0, none⟩) n n), (58, fieldV s), (57, vec 0), (56, .int .u64 (am (decide ((x (n - 1 - k16)) = 0)))), (55, .int .i64 ((n - 1 - k16 : Nat) : Int)), (54, .slice (some ⟨b2, 0, none⟩) n n), (14, .int .u64 (am (decide ((x (n - 1 - k16)) = 0)))), (53, .int .u64 (am (decide ((x (n - 1 - k16)) = 0)))), (52, vec (mq (x (n - 1 - k16)))), (13, .pointer (some ⟨b17, 0, none⟩)), (12, .int .i64 ((n - 1 - k16 : Nat) : Int)), (51, vec (mq (x (n - 1 - k16)))), (50, .int .i64 ((n - 1 - k16 : Nat) : Int)), (49, .func (.func 177) #[] #[.pointer (some ⟨b14, 0, none⟩), .pointer (some ⟨b15, 0, none⟩)]), (11, .pointer (some ⟨b12, 0, none⟩)), (7, .pointer (some ⟨b3, 0, none⟩)), (6, .slice none 0 0), (4, .pointer (some ⟨b1, 0, none⟩))] a ∧ Sat F0 W [blk b2 (en vq (fun i => (if i = n - 1 - k16 then (if (decide ((x (n - 1 - k16)) = 0)) then 0 else mq ((Pp x (n - 1 - k16)) * (Iv x n k16))) else bat2 x n k16 i)) n) 56, LB16, blk b17 [.int .u64 ((dg 0 (mq (x (n - 1 - k16))) : Nat) : Int), .int .u64 ((dg 1 (mq (x (n - 1 - k16))) : Nat) : Int), .int .u64 ((dg 2 (mq (x (n - 1 - k16))) : Nat) : Int), .int .u64 ((dg 3 (mq (x (n - 1 - k16))) : Nat) : Int)] 56, blk b1 (fieldL s) 120, blk b3 [.slice (some ⟨b2, 0, none⟩) n n] 51, blk b12 [.int .u64 ((dg 0 (mq (Iv x n k16)) : Nat) : Int), .int .u64 ((dg 1 (mq (Iv x n k16)) : Nat) : Int), .int .u64 ((dg 2 (mq (Iv x n k16)) : Nat) : Int), .int .u64 ((dg 3 (mq (Iv x n k16)) : Nat) : Int)] 56, FR16] ((rall [blk b14 [.func (.func 169) #[] #[.pointer (some ⟨b13, 0, none⟩)]] 192, blk b15 [tval t] 60]) :: (rall [blk b13 [.slice la n lc] 51]) :: (rall [blk b6 [.func (.func 178) #[] #[.pointer (some ⟨b5, 0, none⟩)]] 192, blk b7 [tval t] 60]) :: (rall [blk b5 [.slice la n lc] 51]) :: R) w ∧ okL [blk b1 (fieldL s) 120, blk b17 [.int .u64 ((dg 0 (mq (x (n - 1 - k16))) : Nat) : Int), .int .u64 ((dg 1 (mq (x (n - 1 - k16))) : Nat) : Int), .int .u64 ((dg 2 (mq (x (n - 1 - k16))) : Nat) : Int), .int .u64 ((dg 3 (mq (x (n - 1 - k16))) : Nat) : Int)] 56] w) ?_ ?_
   ·
    intro hJ127
    refine d_w 0 1 hk hL rfl (fun w hL => w_ldA rfl ty120 (.blk (n := 14) (hL.at 0 rfl) rfl) rfl) fun a hk => ?_
    refine d_w 2 5 hk hL rfl (fun w hL => w_mv rfl) fun a hk => ?_
    refine d_w 3 13 hk hL rfl (fun w hL => w_fa rfl fq120_3 ty56) fun a hk => ?_
    refine d_w 4 29 hk hL rfl (fun w hL => w_ldv (z := rone s) rfl ty56 (.blk (n := 4) (hL.at 0 rfl) rfl)) fun a hk => ?_
    refine d_w 5 61 hk hL rfl (fun w hL => w_ldv (z := mq (x (n - 1 - k16))) rfl ty56 (.blk (n := 4) (hL.at 1 rfl) rfl)) fun a hk => ?_
    refine d_2 1 6 63 125 rfl rfl (by kernel_rfl) (fun K hK => ?_) (fun K hK => ?_)
    ·
     refine q_v hk (w_ldv (z := mq (Iv x n k16)) rfl ty56 (.blk (n := 4) (hs.mi 5 rfl) rfl)) fun a hk => ?_
     have hL := okL.cons (hs.mi 3 rfl) (okL.cons (hs.mi 2 rfl) okL.nil)
     refine c_end (x_t (hK _ _ hL ?_))
     clear hK K
     refine d_1 6 127 rfl (by kernel_rfl) fun K hK => ?_
     refine q_call (caps := []) hk rfl rfl Tryz.func165 fo165 rfl rfl (zchoose_c _ (decide ((x (n - 1 - k16)) = 0)) rfl (rone_lt4 s) (mq_lt4 _)) ?_
     rintro _ w ⟨rfl, hb⟩
     have hs := hs.below hb
     refine ⟨_, rfl, fun a hk => ?_⟩
     have hL := okL.cons (hs.mi 3 rfl) (okL.cons (hs.mi 2 rfl) okL.nil)
     refine c_end (x_t (hK _ _ hL ?_))
     clear hK K
     have hL := okL.cons (hs.mi 3 rfl) (okL.cons (hs.mi 2 rfl) okL.nil)
     exact hJ127 _ _ ⟨hk.k rfl (hk.k rfl (hk.k rfl (hk.k rfl (hk.k rfl (hk.k rfl (hk.k rfl (hk.k rfl (hk.k rfl (hk.k rfl (hk.k rfl (hk.k rfl (hk.k rfl (hk.k rfl (hk.k rfl (hk.k rfl (hk.k rfl (hk.k rfl (hk.k rfl (hk.k rfl (hk.k rfl (hk.k rfl (hk.k rfl (hk.k rfl (hk.k rfl (hk.k rfl (hk.k rfl (hk.k rfl (hk.k rfl (hk.k rfl (hk.k rfl (hk.k rfl hk.nil))))))))))))))))))))))))))))))), hs, hL⟩
    ·
     refine q_call (caps := []) hk rfl rfl Tryz.func165 fo165 rfl rfl (zchoose_c _ (decide ((x (n - 1 - k16)) = 0)) rfl (rone_lt4 s) (mq_lt4 _)) ?_
     rintro _ w ⟨rfl, hb⟩
     have hs := hs.below hb
     refine ⟨_, rfl, fun a hk => ?_⟩
     have hL := okL.cons (hs.mi 3 rfl) (okL.cons (hs.mi 2 rfl) okL.nil)
     refine c_end (x_t (hK _ _ hL ?_))
     clear hK K
     refine d_1 1 127 rfl (by kernel_rfl) fun K hK => ?_
     refine q_v hk (w_ldv (z := mq (Iv x n k16)) rfl ty56 (.blk (n := 4) (hs.mi 5 rfl) rfl)) fun a hk => ?_
     have hL := okL.cons (hs.mi 3 rfl) (okL.cons (hs.mi 2 rfl) okL.nil)
     refine c_end (x_t (hK _ _ hL ?_))
     clear hK K
     have hL := okL.cons (hs.mi 3 rfl) (okL.cons (hs.mi 2 rfl) okL.nil)
     exact hJ127 _ _ ⟨hk.k rfl (hk.k rfl (hk.k rfl (hk.k rfl (hk.k rfl (hk.k rfl (hk.k rfl (hk.k rfl (hk.k rfl (hk.k rfl (hk.k rfl (hk.k rfl (hk.k rfl (hk.k rfl (hk.k rfl (hk.k rfl (hk.k rfl (hk.k rfl (hk.k rfl (hk.k rfl (hk.k rfl (hk.k rfl (hk.k rfl (hk.k rfl (hk.k rfl (hk.k rfl (hk.k rfl (hk.k rfl (hk.k rfl (hk.k rfl (hk.k rfl (hk.k rfl hk.nil))))))))))))))))))))))))))))))), hs, hL⟩
   ·
    rintro a w ⟨hk, hs, hL⟩
    refine d_1 7 255 rfl (by kernel_rfl) fun K hK => ?_
    refine q_call (caps := []) hk rfl rfl Tryz.func120 fo120 rfl rfl (zmul_c (x := (Iv x n k16)) (y := (nz (x (n - 1 - k16)))) _ rfl (nz_ch _)) ?_
    rintro _ w ⟨rfl, hb⟩
    have hs := hs.below hb
    refine ⟨_, rfl, fun a hk => ?_⟩
    have hL := okL.cons (hs.mi 3 rfl) (okL.cons (hs.mi 2 rfl) okL.nil)
    refine c_end (x_t (hK _ _ hL ?_))
    clear hK K
    refine d_1 8 511 rfl (by kernel_rfl) fun K hK => ?_
    have hs := hs.up5
    refine q_sto (o := 0) (cs := [.int .u64 ((dg 0 (mq ((Iv x n k16) * (nz (x (n - 1 - k16))))) : Nat) : Int), .int .u64 ((dg 1 (mq ((Iv x n k16) * (nz (x (n - 1 - k16))))) : Nat) : Int), .int .u64 ((dg 2 (mq ((Iv x n k16) * (nz (x (n - 1 - k16))))) : Nat) : Int), .int .u64 ((dg 3 (mq ((Iv x n k16) * (nz (x (n - 1 - k16))))) : Nat) : Int)]) (vs' := [.int .u64 ((dg 0 (mq ((Iv x n k16) * (nz (x (n - 1 - k16))))) : Nat) : Int), .int .u64 ((dg 1 (mq ((Iv x n k16) * (nz (x (n - 1 - k16))))) : Nat) : Int), .int .u64 ((dg 2 (mq ((Iv x n k16) * (nz (x (n - 1 - k16))))) : Nat) : Int), .int .u64 ((dg 3 (mq ((Iv x n k16) * (nz (x (n - 1 - k16))))) : Nat) : Int)]) hk hs rfl rfl rfl ty56 rfl rfl rfl rfl rfl rfl fun w hs => ?_
    have hL := okL.cons (hs.mi 4 rfl) (okL.cons (hs.mi 3 rfl) okL.nil)
    refine c_end (x_t (hK _ _ hL ?_))
    clear hK K
    refine d_end (by kernel_rfl) ?_
    refine (x_b ?_)
    have hs := hs.up1
    have hs := hs.rw0 (congrArg (fun q => blk b2 q 56) (bat2_step hlt))
    have hs := hs.up3
    have hs := hs.drop
    have hs := hs.up5
    have hs := hs.up3
    have hs := hs.up3
    have hs := hs.up3
    have hs := hs.up5
    have hs := hs.up5
    exact ⟨_, rfl, Sat.pack (l := [_, _, _, _]) hs⟩
  ·
   intro D16 r r16 a w hJ hK hk hs
   rw [dnP_len] at hJ hK
   obtain ⟨rfl⟩ := hJ
   have hs := Sat.unpack (l := [blk b1 (fieldL s) 120, blk b3 [.slice (some ⟨b2, 0, none⟩) n n] 51, blk b2 (en vq (fun i => bat2 x n n i) n) 56, blk b12 [.int .u64 ((dg 0 (mq (Iv x n n)) : Nat) : Int), .int .u64 ((dg 1 (mq (Iv x n n)) : Nat) : Int), .int .u64 ((dg 2 (mq (Iv x n n)) : Nat) : Int), .int .u64 ((dg 3 (mq (Iv x n n)) : Nat) : Int)] 56]) hs.up1
   have hT := hK
   rw [dnP_coef] at hT
   have hT : TapeIs t (((evs ++ upE 0 (n : Int) coefE) ++ inverseE) ++ downE (n : Int) coefE) r16 := hT
   have hs : Sat F0 W ((blk b1 (fieldL s) 120) :: (blk b3 [.slice (some ⟨b2, 0, none⟩) n n] 51) :: (blk b2 (en vq (fun i => bat2 x n n i) n) 56) :: (blk b12 [.int .u64 ((dg 0 (mq (Iv x n n)) : Nat) : Int), .int .u64 ((dg 1 (mq (Iv x n n)) : Nat) : Int), .int .u64 ((dg 2 (mq (Iv x n n)) : Nat) : Int), .int .u64 ((dg 3 (mq (Iv x n n)) : Nat) : Int)] 56) :: (dres D16) :: r16 :: (blk b4 [.int .u64 ((dg 0 (mq (Pp x n)) : Nat) : Int), .int .u64 ((dg 1 (mq (Pp x n)) : Nat) : Int), .int .u64 ((dg 2 (mq (Pp x n)) : Nat) : Int), .int .u64 ((dg 3 (mq (Pp x n)) : Nat) : Int)] 56) :: (dres D8) :: M) ((rall [blk b14 [.func (.func 169) #[] #[.pointer (some ⟨b13, 0, none⟩)]] 192, blk b15 [tval t] 60]) :: (rall [blk b13 [.slice la n lc] 51]) :: (rall [blk b6 [.func (.func 178) #[] #[.pointer (some ⟨b5, 0, none⟩)]] 192, blk b7 [tval t] 60]) :: (rall [blk b5 [.slice la n lc] 51]) :: R) w := hs
   refine (x_b (x_t ?_))
   refine wS (wR ?_)
   refine q_v hk (w_ld1 rfl ty51 (.blk (n := 1) (hs.mi 1 rfl) rfl)) fun a hk => ?_
   refine q_v hk (w_as rfl) fun a hk => ?_
   refine c_end (x_t ?_)
   refine (wpIn_ret ?_)
   have hs := hs.up6
   have hs := hs.up6
   have hs := hs.up5
   have hs := hs.up5
   have hs := hs.up5
   have hs := hs.up5
   have hs := hs.up7
   have hs := hs.up7
   refine c_retM (M := ((blk b1 (fieldL s) 120) :: (blk b3 [.slice (some ⟨b2, 0, none⟩) n n] 51) :: (blk b2 (en vq (fun i => bat2 x n n i) n) 56) :: (blk b12 [.int .u64 ((dg 0 (mq (Iv x n n)) : Nat) : Int), .int .u64 ((dg 1 (mq (Iv x n n)) : Nat) : Int), .int .u64 ((dg 2 (mq (Iv x n n)) : Nat) : Int), .int .u64 ((dg 3 (mq (Iv x n n)) : Nat) : Int)] 56) :: r16 :: (blk b4 [.int .u64 ((dg 0 (mq (Pp x n)) : Nat) : Int), .int .u64 ((dg 1 (mq (Pp x n)) : Nat) : Int), .int .u64 ((dg 2 (mq (Pp x n)) : Nat) : Int), .int .u64 ((dg 3 (mq (Pp x n)) : Nat) : Int)] 56) :: M)) hk hs fun w hs => ⟨_, res_ok (rs := [.tmp 6]) (vs := [.slice (some ⟨b2, 0, none⟩) n n]) hk rfl ⟨rfl, trivial⟩, ?_⟩
   have hs := hs.drop
   have hs := hs.drop
   have hs := hs.up1
   have hs := hs.drop
   have hs := hs.up2
   have hs := hs.drop
   have hs := hs.up1
   have hs := hs.toR (R' := R) (fun r hr => .of (by simp [hr]))
   rw [bat2_end] at hs
   exact ⟨_, _, rfl, by unfold batE; simpa only [List.append_assoc] using hT, hs⟩
  · rintro _ _ _ _ _ _ _ _ h; exact h.elim
 · rintro _ _ _ _ _ _ _ _ h; exact h.elim
end Go.Proofs.YtdnkkbmpefhbjaaGreatDoor
namespace Go.Proofs.YtdnkkbmpefhbjaaGreatDoor
set_option linter.all false
open Go Go.RowKit Alg
/-- Horner's rule, from the top, after k rounds. -/
def Hn {s : Bool} (c : Nat → Zp s) (n : Nat) (x : Zp s) : Nat → Zp s
  | 0 => 0
  | k + 1 => Hn c n x k * x + c (n - 1 - k)
/-- The quotient's elements after k rounds. -/
def quf {s : Bool} (c : Nat → Zp s) (n : Nat) (x : Zp s) (k j : Nat) : Nat := if n ≤ j + 1 + k then mq (Hn c n x (n - 1 - j)) else 0
section
variable {s : Bool} {c : Nat → Zp s} {x : Zp s} {n k : Nat}
theorem quf_zero : en vq (fun _ => 0) (n - 1) = en vq (quf c n x 0) (n - 1) := en_congr fun i hi => by unfold quf; rw [if_neg (by omega)]
theorem quf_step (hk : 0 < n - 1 - k) : en vq (fun i => if i = n - 1 - k - 1 then mq (Hn c n x (k + 1)) else quf c n x k i) (n - 1) = en vq (quf c n x (k + 1)) (n - 1) := en_congr fun i hi => by
  unfold quf
  by_cases h : i = n - 1 - k - 1
  · rw [if_pos h, if_pos (by omega), h, show n - 1 - (n - 1 - k - 1) = k + 1 by omega]
  · rw [if_neg h]
    by_cases l : n ≤ i + 1 + k
    · rw [if_pos l, if_pos (by omega)]
    · rw [if_neg l, if_neg (by omega)]
theorem quf_last (hk : n - 1 - k = 0) : en vq (quf c n x k) (n - 1) = en vq (quf c n x (k + 1)) (n - 1) := en_congr fun i hi => by
  unfold quf
  rw [if_pos (by omega), if_pos (by omega)]
theorem quf_end : en vq (quf c n x n) (n - 1) = en vq (fun i => mq (Hn c n x (n - 1 - i))) (n - 1) := en_congr fun i hi => by unfold quf; rw [if_pos (by omega)]
end
/-- One row of a product, and all. -/
def mrow {s : Bool} (a b : Nat → Zp s) (i : Nat) (f : Nat → Zp s) : Nat → Nat → Zp s
  | 0 => f
  | k + 1 => fun j => if j = i + k then mrow a b i f k j + a i * b k else mrow a b i f k j
def mall {s : Bool} (a b : Nat → Zp s) (nb : Nat) : Nat → Nat → Zp s
  | 0 => fun _ => 0
  | i + 1 => mrow a b i (mall a b nb i) nb
theorem mall_zero {s : Bool} {a b : Nat → Zp s} {nb n : Nat} : en vq (fun _ => 0) n = en vq (fun j => mq (mall a b nb 0 j)) n := en_congr fun i _ => by show 0 = mq (0 : Zp s); rw [mq_zero]
theorem mrow_step {s : Bool} {a b : Nat → Zp s} {i k n : Nat} {f : Nat → Zp s} : en vq (fun j => if j = i + k then mq (mrow a b i f k (i + k) + a i * b k) else mq (mrow a b i f k j)) n = en vq (fun j => mq (mrow a b i f (k + 1) j)) n := en_congr fun j _ => by
  show _ = mq (if j = i + k then _ else _)
  by_cases h : j = i + k
  · rw [if_pos h, if_pos h, h]
  · rw [if_neg h, if_neg h]
theorem quot_m {F0 : Nat → Prop} {W : World} {M R : List Res} (s : Bool) (n lc : Nat) (la : Option Addr) (c : Nat → Zp s) (x : Zp s) (t : Option Nat) (evs : List Ev) (r : Res) (w0 : World) (hs : Sat F0 W (r :: M) R w0) (hT : TapeIs t evs r) (hL : HasR (lst 4 (.slice la n lc) n (en vq (fun i => mq (c i)) n)) R) (h0 : 0 < n) (hn9 : n ≤ 1000000) (hn : evs.length ≤ 1000000000) : Calls Tryz.prog 119 [tval t, fieldV s, .slice la n lc, vec (mq x)].toArray w0 fun e w => ∃ b r, e = .returned (.tuple #[.slice (some ⟨b, 0, none⟩) (n - 1) (n - 1), vec (mq (Hn c n x n))]) ∧ TapeIs t (evs ++ downE n coefE) r ∧ Sat F0 W (r :: blk b (en vq (fun i => mq (Hn c n x (n - 1 - i))) (n - 1)) 56 :: M) R w := by
 refine c_enterM (args := [tval t, fieldV s, .slice la n lc, vec (mq x)]) Tryz.func119 rfl rfl rfl fun a hk => ?_
 refine wS (wR ?_)
 refine q_box (vs := fieldL s) hk hs rfl rfl rfl rfl fun b1 w a hk hs => ?_
 refine q_box (vs := [.int .u64 ((dg 0 (mq x) : Nat) : Int), .int .u64 ((dg 1 (mq x) : Nat) : Int), .int .u64 ((dg 2 (mq x) : Nat) : Int), .int .u64 ((dg 3 (mq x) : Nat) : Int)]) hk hs rfl rfl rfl rfl fun b2 w a hk hs => ?_
 refine q_v hk (w_as rfl) fun a hk => ?_
 refine q_alc (vs := [.int .u64 0, .int .u64 0, .int .u64 0, .int .u64 0]) hk hs zr56 rfl rfl rfl fun b3 w a hk hs => ?_
 refine c_end (x_t (wS (wR ?_)))
 refine q_v hk (w_mv rfl) fun a hk => ?_
 refine q_v hk (w_len rfl Tryz.underlying51) fun a hk => ?_
 refine q_v hk (w_sub rfl rfl (wr64 (by omega) (by omega))) fun a hk => ?_
 refine q_v hk (w_max (r := ((n - 1 : Nat) : Int)) rfl rfl (by omega)) fun a hk => ?_
 refine q_mks (k := n - 1) (cs := vq 0) hk hs rfl rfl Tryz.underlying51 ty56 zr56 (by kernel_rfl) rfl rfl rfl rfl (by omega) (by omega) rfl rfl fun b4 w a hk hs => ?_
 have hs := hs.rw0 (show _ = blk b4 (en vq (fun _ => 0) (n - 1)) 56 from rfl)
 refine q_alc (vs := [.slice none 0 0]) hk hs zr51 rfl rfl rfl fun b5 w a hk hs => ?_
 refine q_sto (o := 0) (cs := [.slice (some ⟨b4, 0, none⟩) (n - 1) (n - 1)]) (vs' := [.slice (some ⟨b4, 0, none⟩) (n - 1) (n - 1)]) hk hs rfl rfl rfl ty51 rfl rfl rfl rfl rfl rfl fun w hs => ?_
 refine c_end (x_t (wS (wR ?_)))
 refine q_alc (vs := [.int .u64 0, .int .u64 0, .int .u64 0, .int .u64 0]) hk hs zr56 rfl rfl rfl fun b6 w a hk hs => ?_
 refine c_end (x_t (wS (wS (wR ?_))))
 refine q_v hk (w_mv rfl) fun a hk => ?_
 refine q_v hk (w_mv rfl) fun a hk => ?_
 refine q_call (caps := []) hk rfl rfl Tryz.func148 fo148 rfl rfl (back_c n lc la _) ?_
 rintro _ w ⟨b7, rfl, hS⟩
 have hs := hs.call1 hS
 clear hS
 refine ⟨_, rfl, fun a hk => ?_⟩
 refine q_call (caps := []) hk rfl rfl Tryz.func147 fo147 rfl rfl (pvis_c t (169, [.pointer (some ⟨b7, 0, none⟩)]) _) ?_
 rintro _ w ⟨b8, b9, rfl, hS⟩
 have hs := hs.call2 hS
 clear hS
 refine ⟨_, rfl, fun a hk => ?_⟩
 refine c_end (x_t ?_)
 refine wpIn_block ?_
 have hs := hs.up2
 have hs := Sat.frzL (l := [blk b7 [.slice la n lc] 51]) hs
 have hs := hs.up1
 have hs := hs.up1
 have hs := Sat.frzL (l := [blk b8 [.func (.func 169) #[] #[.pointer (some ⟨b7, 0, none⟩)]] 192, blk b9 [tval t] 60]) hs
 have hs := hs.up2
 have hs := hs.rw0 (congrArg (fun q => blk b4 q 56) (quf_zero (c := c) (x := x)))
 have hs := hs.up1
 have hs := hs.rw0 (show blk b6 [.int .u64 0, .int .u64 0, .int .u64 0, .int .u64 0] 56 = blk b6 [.int .u64 ((dg 0 0 : Nat) : Int), .int .u64 ((dg 1 0 : Nat) : Int), .int .u64 ((dg 2 0 : Nat) : Int), .int .u64 ((dg 3 0 : Nat) : Int)] 56 from rfl)
 have hs := hs.rw0 (show _ = blk b6 (vq (mq (Hn c n x 0))) 56 from by show blk b6 (vq 0) 56 = blk b6 (vq (mq 0)) 56; rw [mq_zero])
 have hk : Kn [] 41 [(22, .func (.func 168) #[] #[.pointer (some ⟨b8, 0, none⟩), .pointer (some ⟨b9, 0, none⟩)]), (11, .pointer (some ⟨b6, 0, none⟩)), (10, .pointer (some ⟨b5, 0, none⟩)), (9, .pointer (some ⟨b3, 0, none⟩)), (8, .slice none 0 0), (7, .pointer (some ⟨b2, 0, none⟩)), (5, .pointer (some ⟨b1, 0, none⟩))] a := hk.k rfl (hk.k rfl (hk.k rfl (hk.k rfl (hk.k rfl (hk.k rfl (hk.k rfl hk.nil))))))
 have hs := hs.up6
 have hs := hs.up1
 have hs := hs.up2
 have hs := hs.up3
 have hs := hs.up5
 have hs := hs.up6
 have hs := Sat.pack (l := [blk b1 (fieldL s) 120, blk b2 [.int .u64 ((dg 0 (mq x) : Nat) : Int), .int .u64 ((dg 1 (mq x) : Nat) : Int), .int .u64 ((dg 2 (mq x) : Nat) : Int), .int .u64 ((dg 3 (mq x) : Nat) : Int)] 56, blk b5 [.slice (some ⟨b4, 0, none⟩) (n - 1) (n - 1)] 51, blk b4 (en vq (fun i => quf c n x 0 i) (n - 1)) 56, blk b6 [.int .u64 ((dg 0 (mq (Hn c n x 0)) : Nat) : Int), .int .u64 ((dg 1 (mq (Hn c n x 0)) : Nat) : Int), .int .u64 ((dg 2 (mq (Hn c n x 0)) : Nat) : Int), .int .u64 ((dg 3 (mq (Hn c n x 0)) : Nat) : Int)] 56]) hs
 refine c_range0 hk hs rfl (⟨_, _, _, rfl, Tryz.func168, fo168, pvis_it t evs (169, [.pointer (some ⟨b7, 0, none⟩)]) (dnP n (fun i => mq (c i))) (rall [blk b7 [.slice la n lc] 51, lst 4 (.slice la n lc) n (en vq (fun i => mq (c i)) n)]) b8 b9 ⟨_, _, _, rfl, Tryz.func169, fo169, back_it b7 n lc la (fun i => mq (c i)) (by omega)⟩ (by rw [dnP_len]; (try simp only [List.length_append, coefU_len, List.append_assoc]); have hI := inverse_len; omega)⟩) (.rall fun q hq => by simp only [List.mem_cons, List.not_mem_nil, or_false] at hq; rcases hq with rfl | rfl | rfl <;> first | exact (HasR.nth 0 rfl).pi 0 rfl | exact (HasR.nth 0 rfl).pi 1 rfl | exact HasR.two ((HasR.nth 1 rfl).pi 0 rfl) (hL.cons.cons)) (fun _ => rfl) rfl (fun k r => r = bun [blk b1 (fieldL s) 120, blk b2 [.int .u64 ((dg 0 (mq x) : Nat) : Int), .int .u64 ((dg 1 (mq x) : Nat) : Int), .int .u64 ((dg 2 (mq x) : Nat) : Int), .int .u64 ((dg 3 (mq x) : Nat) : Int)] 56, blk b5 [.slice (some ⟨b4, 0, none⟩) (n - 1) (n - 1)] 51, blk b4 (en vq (fun i => quf c n x k i) (n - 1)) 56, blk b6 [.int .u64 ((dg 0 (mq (Hn c n x k)) : Nat) : Int), .int .u64 ((dg 1 (mq (Hn c n x k)) : Nat) : Int), .int .u64 ((dg 2 (mq (Hn c n x k)) : Nat) : Int), .int .u64 ((dg 3 (mq (Hn c n x k)) : Nat) : Int)] 56]) (fun c k r => False) rfl (by rw [List.take_zero, List.map_nil, List.append_nil]; exact hT) ?_ ?_ ?_
 ·
  rintro l10 k10 x10 hx10 LR10 LB10 FR10 hL10 r a w ⟨rfl⟩ hk hs
  obtain ⟨hlt, rfl⟩ := dnP_some hx10
  have hk : Kn [] 41 [(24, vec (mq (c (n - 1 - k10)))), (23, .int .i64 ((n - 1 - k10 : Nat) : Int)), (22, .func (.func 168) #[] #[.pointer (some ⟨b8, 0, none⟩), .pointer (some ⟨b9, 0, none⟩)]), (11, .pointer (some ⟨b6, 0, none⟩)), (10, .pointer (some ⟨b5, 0, none⟩)), (9, .pointer (some ⟨b3, 0, none⟩)), (8, .slice none 0 0), (7, .pointer (some ⟨b2, 0, none⟩)), (5, .pointer (some ⟨b1, 0, none⟩))] a := hk
  have hs : Sat F0 W [blk b1 (fieldL s) 120, blk b2 [.int .u64 ((dg 0 (mq x) : Nat) : Int), .int .u64 ((dg 1 (mq x) : Nat) : Int), .int .u64 ((dg 2 (mq x) : Nat) : Int), .int .u64 ((dg 3 (mq x) : Nat) : Int)] 56, blk b5 [.slice (some ⟨b4, 0, none⟩) (n - 1) (n - 1)] 51, blk b4 (en vq (fun i => quf c n x k10 i) (n - 1)) 56, blk b6 [.int .u64 ((dg 0 (mq (Hn c n x k10)) : Nat) : Int), .int .u64 ((dg 1 (mq (Hn c n x k10)) : Nat) : Int), .int .u64 ((dg 2 (mq (Hn c n x k10)) : Nat) : Int), .int .u64 ((dg 3 (mq (Hn c n x k10)) : Nat) : Int)] 56, LR10, FR10] ((rall [blk b8 [.func (.func 169) #[] #[.pointer (some ⟨b7, 0, none⟩)]] 192, blk b9 [tval t] 60]) :: (rall [blk b7 [.slice la n lc] 51]) :: R) w := hs.unpack
  refine wS (wR ?_)
  refine q_v hk (w_as rfl) fun a hk => ?_
  refine c_end (x_t (wR ?_))
  refine q_alc (vs := [.int .u64 0, .int .u64 0, .int .u64 0, .int .u64 0]) hk hs zr56 rfl rfl rfl fun b11 w a hk hs => ?_
  refine q_sto (o := 0) (cs := [.int .u64 ((dg 0 (mq (c (n - 1 - k10))) : Nat) : Int), .int .u64 ((dg 1 (mq (c (n - 1 - k10))) : Nat) : Int), .int .u64 ((dg 2 (mq (c (n - 1 - k10))) : Nat) : Int), .int .u64 ((dg 3 (mq (c (n - 1 - k10))) : Nat) : Int)]) (vs' := [.int .u64 ((dg 0 (mq (c (n - 1 - k10))) : Nat) : Int), .int .u64 ((dg 1 (mq (c (n - 1 - k10))) : Nat) : Int), .int .u64 ((dg 2 (mq (c (n - 1 - k10))) : Nat) : Int), .int .u64 ((dg 3 (mq (c (n - 1 - k10))) : Nat) : Int)]) hk hs rfl rfl rfl ty56 rfl rfl rfl rfl rfl rfl fun w hs => ?_
  refine c_end (x_t ?_)
  have hs := hs.up6
  refine hL10.begin_ hs fun w hs => ?_
  refine wpIn_block ?_
  refine wS ?_
  have hL := okL.cons (hs.mi 2 rfl) (okL.cons (hs.mi 3 rfl) (okL.cons (hs.mi 1 rfl) okL.nil))
  refine d_begin _ 8 (by kernel_rfl) rfl hs hL fun w hs hL => ?_
  refine d_w 0 1 hk hL rfl (fun w hL => w_ldA rfl ty120 (.blk (n := 14) (hL.at 0 rfl) rfl) rfl) fun a hk => ?_
  refine d_w 1 3 hk hL rfl (fun w hL => w_ldA rfl ty120 (.blk (n := 14) (hL.at 0 rfl) rfl) rfl) fun a hk => ?_
  refine d_w 3 11 hk hL rfl (fun w hL => w_ldv (z := mq x) rfl ty56 (.blk (n := 4) (hL.at 1 rfl) rfl)) fun a hk => ?_
  refine d_w 5 43 hk hL rfl (fun w hL => w_ldv (z := mq (c (n - 1 - k10))) rfl ty56 (.blk (n := 4) (hL.at 2 rfl) rfl)) fun a hk => ?_
  refine d_1 2 47 rfl (by kernel_rfl) fun K hK => ?_
  refine q_v hk (w_ldv (z := mq (Hn c n x k10)) rfl ty56 (.blk (n := 4) (hs.mi 6 rfl) rfl)) fun a hk => ?_
  have hL := okL.cons (hs.mi 2 rfl) (okL.cons (hs.mi 3 rfl) (okL.cons (hs.mi 1 rfl) okL.nil))
  refine c_end (x_t (hK _ _ hL ?_))
  clear hK K
  refine d_1 4 63 rfl (by kernel_rfl) fun K hK => ?_
  refine q_call (caps := []) hk rfl rfl Tryz.func120 fo120 rfl rfl (zmul_c (x := (Hn c n x k10)) (y := x) _ rfl rfl) ?_
  rintro _ w ⟨rfl, hb⟩
  have hs := hs.below hb
  refine ⟨_, rfl, fun a hk => ?_⟩
  have hL := okL.cons (hs.mi 2 rfl) (okL.cons (hs.mi 3 rfl) (okL.cons (hs.mi 1 rfl) okL.nil))
  refine c_end (x_t (hK _ _ hL ?_))
  clear hK K
  refine d_1 6 127 rfl (by kernel_rfl) fun K hK => ?_
  refine q_call (caps := []) hk rfl rfl Tryz.func121 fo121 rfl rfl (zadd_c (x := ((Hn c n x k10) * x)) (y := (c (n - 1 - k10))) _ rfl rfl) ?_
  rintro _ w ⟨rfl, hb⟩
  have hs := hs.below hb
  refine ⟨_, rfl, fun a hk => ?_⟩
  have hL := okL.cons (hs.mi 2 rfl) (okL.cons (hs.mi 3 rfl) (okL.cons (hs.mi 1 rfl) okL.nil))
  refine c_end (x_t (hK _ _ hL ?_))
  clear hK K
  refine d_1 7 255 rfl (by kernel_rfl) fun K hK => ?_
  have hs := hs.up6
  refine q_sto (o := 0) (cs := [.int .u64 ((dg 0 (mq (((Hn c n x k10) * x) + (c (n - 1 - k10)))) : Nat) : Int), .int .u64 ((dg 1 (mq (((Hn c n x k10) * x) + (c (n - 1 - k10)))) : Nat) : Int), .int .u64 ((dg 2 (mq (((Hn c n x k10) * x) + (c (n - 1 - k10)))) : Nat) : Int), .int .u64 ((dg 3 (mq (((Hn c n x k10) * x) + (c (n - 1 - k10)))) : Nat) : Int)]) (vs' := [.int .u64 ((dg 0 (mq (((Hn c n x k10) * x) + (c (n - 1 - k10)))) : Nat) : Int), .int .u64 ((dg 1 (mq (((Hn c n x k10) * x) + (c (n - 1 - k10)))) : Nat) : Int), .int .u64 ((dg 2 (mq (((Hn c n x k10) * x) + (c (n - 1 - k10)))) : Nat) : Int), .int .u64 ((dg 3 (mq (((Hn c n x k10) * x) + (c (n - 1 - k10)))) : Nat) : Int)]) hk hs rfl rfl rfl ty56 rfl rfl rfl rfl rfl rfl fun w hs => ?_
  have hL := okL.cons (hs.mi 3 rfl) (okL.cons (hs.mi 4 rfl) (okL.cons (hs.mi 2 rfl) okL.nil))
  refine c_end (x_t (hK _ _ hL ?_))
  clear hK K
  refine d_end (by kernel_rfl) ?_
  refine (x_t ?_)
  refine wS (wR ?_)
  refine q_v hk (w_mv rfl) fun a hk => ?_
  rcases Classical.em (0 < ((n - 1 - k10 : Nat) : Int)) with hc12 | hc12
  ·
   refine q_v hk (w_gt rfl rfl (decide_eq_true hc12)) fun a hk => ?_
   refine c_end (x_t ?_)
   refine c_T hk rfl ?_
   refine wR ?_
   refine q_v hk (w_ld1 rfl ty51 (.blk (n := 1) (hs.mi 5 rfl) rfl)) fun a hk => ?_
   refine q_v hk (w_mv rfl) fun a hk => ?_
   refine q_v hk (w_sub rfl rfl (wr64 (by omega) (by omega))) fun a hk => ?_
   refine q_v hk (w_ldv (z := mq (((Hn c n x k10) * x) + (c (n - 1 - k10)))) rfl ty56 (.blk (n := 4) (hs.mi 0 rfl) rfl)) fun a hk => ?_
   refine q_v hk (w_iaL (k := (n - 1 - k10 - 1)) rfl rfl Tryz.underlying51 ty56 (blk_lst (hs.mi 6 rfl) (en_len vq_len) (Nat.le_refl _)) (by omega) (by omega)) fun a hk => ?_
   have hs := hs.up6
   refine q_stoE (c := vq) (xx := (mq (((Hn c n x k10) * x) + (c (n - 1 - k10))))) (k := (n - 1 - k10 - 1)) hk hs rfl rfl rfl ty56 rfl vq_len rfl (by omega) rfl fun w hs => ?_
   refine (c_end (x_b ?_))
   have hs := hs.rw0 (congrArg (fun q => blk b4 q 56) (quf_step (by omega)))
   have hs := hs.up3
   have hs := hs.drop
   have hs := hs.up6
   have hs := hs.up3
   have hs := hs.up3
   have hs := hs.up3
   have hs := hs.up6
   have hs := hs.up6
   have hs := hs.up6
   exact ⟨_, rfl, Sat.pack (l := [_, _, _, _, _]) hs⟩
  ·
   refine q_v hk (w_gt rfl rfl (decide_eq_false hc12)) fun a hk => ?_
   refine c_end (x_t ?_)
   refine c_F hk rfl ?_
   refine (wpIn_skip (x_b ?_))
   have hs := hs.up6
   have hs := hs.rw0 (congrArg (fun q => blk b4 q 56) (quf_last (by omega)))
   have hs := hs.up3
   have hs := hs.drop
   have hs := hs.up6
   have hs := hs.up3
   have hs := hs.up3
   have hs := hs.up3
   have hs := hs.up6
   have hs := hs.up6
   have hs := hs.up6
   exact ⟨_, rfl, Sat.pack (l := [_, _, _, _, _]) hs⟩
 ·
  intro D10 r r10 a w hJ hK hk hs
  rw [dnP_len] at hJ hK
  obtain ⟨rfl⟩ := hJ
  have hs := Sat.unpack (l := [blk b1 (fieldL s) 120, blk b2 [.int .u64 ((dg 0 (mq x) : Nat) : Int), .int .u64 ((dg 1 (mq x) : Nat) : Int), .int .u64 ((dg 2 (mq x) : Nat) : Int), .int .u64 ((dg 3 (mq x) : Nat) : Int)] 56, blk b5 [.slice (some ⟨b4, 0, none⟩) (n - 1) (n - 1)] 51, blk b4 (en vq (fun i => quf c n x n i) (n - 1)) 56, blk b6 [.int .u64 ((dg 0 (mq (Hn c n x n)) : Nat) : Int), .int .u64 ((dg 1 (mq (Hn c n x n)) : Nat) : Int), .int .u64 ((dg 2 (mq (Hn c n x n)) : Nat) : Int), .int .u64 ((dg 3 (mq (Hn c n x n)) : Nat) : Int)] 56]) hs.up1
  have hT := hK
  rw [dnP_coef] at hT
  have hT : TapeIs t (evs ++ downE (n : Int) coefE) r10 := hT
  have hs : Sat F0 W ((blk b1 (fieldL s) 120) :: (blk b2 [.int .u64 ((dg 0 (mq x) : Nat) : Int), .int .u64 ((dg 1 (mq x) : Nat) : Int), .int .u64 ((dg 2 (mq x) : Nat) : Int), .int .u64 ((dg 3 (mq x) : Nat) : Int)] 56) :: (blk b5 [.slice (some ⟨b4, 0, none⟩) (n - 1) (n - 1)] 51) :: (blk b4 (en vq (fun i => quf c n x n i) (n - 1)) 56) :: (blk b6 [.int .u64 ((dg 0 (mq (Hn c n x n)) : Nat) : Int), .int .u64 ((dg 1 (mq (Hn c n x n)) : Nat) : Int), .int .u64 ((dg 2 (mq (Hn c n x n)) : Nat) : Int), .int .u64 ((dg 3 (mq (Hn c n x n)) : Nat) : Int)] 56) :: (dres D10) :: r10 :: (blk b3 [.int .u64 0, .int .u64 0, .int .u64 0, .int .u64 0] 56) :: M) ((rall [blk b8 [.func (.func 169) #[] #[.pointer (some ⟨b7, 0, none⟩)]] 192, blk b9 [tval t] 60]) :: (rall [blk b7 [.slice la n lc] 51]) :: R) w := hs
  refine (x_b (x_t ?_))
  refine wS ?_
  have hL := okL.cons (hs.mi 2 rfl) (okL.cons (hs.mi 4 rfl) okL.nil)
  refine d_begin _ 4 (by kernel_rfl) rfl hs hL fun w hs hL => ?_
  refine d_w 0 1 hk hL rfl (fun w hL => w_ld1 rfl ty51 (.blk (n := 1) (hL.at 0 rfl) rfl)) fun a hk => ?_
  refine d_w 1 3 hk hL rfl (fun w hL => w_ldv (z := mq (Hn c n x n)) rfl ty56 (.blk (n := 4) (hL.at 1 rfl) rfl)) fun a hk => ?_
  refine d_w 2 7 hk hL rfl (fun w hL => w_as rfl) fun a hk => ?_
  refine d_1 3 15 rfl (by kernel_rfl) fun K hK => ?_
  have hs := hs.up7
  refine q_sto (o := 0) (cs := [.int .u64 ((dg 0 (mq (Hn c n x n)) : Nat) : Int), .int .u64 ((dg 1 (mq (Hn c n x n)) : Nat) : Int), .int .u64 ((dg 2 (mq (Hn c n x n)) : Nat) : Int), .int .u64 ((dg 3 (mq (Hn c n x n)) : Nat) : Int)]) (vs' := [.int .u64 ((dg 0 (mq (Hn c n x n)) : Nat) : Int), .int .u64 ((dg 1 (mq (Hn c n x n)) : Nat) : Int), .int .u64 ((dg 2 (mq (Hn c n x n)) : Nat) : Int), .int .u64 ((dg 3 (mq (Hn c n x n)) : Nat) : Int)]) hk hs rfl rfl rfl ty56 rfl rfl rfl rfl rfl rfl fun w hs => ?_
  have hL := okL.cons (hs.mi 3 rfl) (okL.cons (hs.mi 5 rfl) okL.nil)
  refine c_end (x_t (hK _ _ hL ?_))
  clear hK K
  refine d_end (by kernel_rfl) ?_
  refine (x_t ?_)
  refine (wpIn_ret ?_)
  have hs := hs.up7
  have hs := hs.up6
  have hs := hs.up6
  have hs := hs.up6
  have hs := hs.up6
  have hs := hs.up6
  have hs := hs.up6
  have hs := hs.up7
  refine c_retM (M := ((blk b3 [.int .u64 ((dg 0 (mq (Hn c n x n)) : Nat) : Int), .int .u64 ((dg 1 (mq (Hn c n x n)) : Nat) : Int), .int .u64 ((dg 2 (mq (Hn c n x n)) : Nat) : Int), .int .u64 ((dg 3 (mq (Hn c n x n)) : Nat) : Int)] 56) :: (blk b1 (fieldL s) 120) :: (blk b2 [.int .u64 ((dg 0 (mq x) : Nat) : Int), .int .u64 ((dg 1 (mq x) : Nat) : Int), .int .u64 ((dg 2 (mq x) : Nat) : Int), .int .u64 ((dg 3 (mq x) : Nat) : Int)] 56) :: (blk b5 [.slice (some ⟨b4, 0, none⟩) (n - 1) (n - 1)] 51) :: (blk b4 (en vq (fun i => quf c n x n i) (n - 1)) 56) :: (blk b6 [.int .u64 ((dg 0 (mq (Hn c n x n)) : Nat) : Int), .int .u64 ((dg 1 (mq (Hn c n x n)) : Nat) : Int), .int .u64 ((dg 2 (mq (Hn c n x n)) : Nat) : Int), .int .u64 ((dg 3 (mq (Hn c n x n)) : Nat) : Int)] 56) :: r10 :: M)) hk hs fun w hs => ⟨_, res_ok (rs := [.tmp 8, .cell 9 56]) (vs := [.slice (some ⟨b4, 0, none⟩) (n - 1) (n - 1), vec (mq (Hn c n x n))]) hk rfl ⟨rfl, ⟨_, rfl, lv_A ty56 (.blk (n := 4) (hs.mi 0 rfl) rfl) rfl⟩, trivial⟩, ?_⟩
  have hs := hs.drop
  have hs := hs.drop
  have hs := hs.drop
  have hs := hs.drop
  have hs := hs.up1
  have hs := hs.drop
  have hs := hs.up1
  have hs := hs.toR (R' := R) (fun r hr => .of (by simp [hr]))
  rw [quf_end] at hs
  exact ⟨_, _, rfl, hT, hs⟩
 · rintro _ _ _ _ _ _ _ _ h; exact h.elim
theorem peval_m {F0 : Nat → Prop} {W : World} {M R : List Res} (s : Bool) (n lc : Nat) (la : Option Addr) (c : Nat → Zp s) (x : Zp s) (t : Option Nat) (evs : List Ev) (r : Res) (w0 : World) (hs : Sat F0 W (r :: M) R w0) (hT : TapeIs t evs r) (hL : HasR (lst 4 (.slice la n lc) n (en vq (fun i => mq (c i)) n)) R) (h0 : 0 < n) (hn9 : n ≤ 1000000) (hn : evs.length ≤ 1000000000) : Calls Tryz.prog 91 [tval t, fieldV s, .slice la n lc, vec (mq x)].toArray w0 fun e w => ∃ r, e = .returned (vec (mq (Hn c n x n))) ∧ TapeIs t (evs ++ downE n coefE) r ∧ Sat F0 W (r :: M) R w := by
 refine c_enter (args := [tval t, fieldV s, .slice la n lc, vec (mq x)]) Tryz.func91 rfl rfl rfl fun a hk => ?_
 refine wS (wR ?_)
 refine q_box (vs := fieldL s) hk hs rfl rfl rfl rfl fun b1 w a hk hs => ?_
 refine q_box (vs := [.int .u64 ((dg 0 (mq x) : Nat) : Int), .int .u64 ((dg 1 (mq x) : Nat) : Int), .int .u64 ((dg 2 (mq x) : Nat) : Int), .int .u64 ((dg 3 (mq x) : Nat) : Int)]) hk hs rfl rfl rfl rfl fun b2 w a hk hs => ?_
 refine q_alc (vs := [.int .u64 0, .int .u64 0, .int .u64 0, .int .u64 0]) hk hs zr56 rfl rfl rfl fun b3 w a hk hs => ?_
 refine c_end (x_t (wS (wR ?_)))
 refine q_v hk (w_mv rfl) fun a hk => ?_
 refine q_v hk (w_ldA rfl ty120 (.blk (n := 14) (hs.mi 2 rfl) rfl) rfl) fun a hk => ?_
 refine q_v hk (w_mv rfl) fun a hk => ?_
 refine q_v hk (w_ldv (z := mq x) rfl ty56 (.blk (n := 4) (hs.mi 1 rfl) rfl)) fun a hk => ?_
 have hs := hs.up3
 refine q_call (caps := []) hk rfl rfl Tryz.func119 fo119 rfl rfl (quot_m s n lc la c x t evs _ _ hs hT hL h0 hn9 (by omega)) ?_
 rintro _ w ⟨b4, r5, rfl, ht6, hs⟩
 have hT := ht6
 refine ⟨_, rfl, fun a hk => ?_⟩
 refine q_v hk (w_mv rfl) fun a hk => ?_
 refine q_v hk (w_ext rfl rfl) fun a hk => ?_
 refine q_v hk (w_ext rfl rfl) fun a hk => ?_
 refine q_alc (vs := [.int .u64 0, .int .u64 0, .int .u64 0, .int .u64 0]) hk hs zr56 rfl rfl rfl fun b7 w a hk hs => ?_
 refine q_v hk (w_as rfl) fun a hk => ?_
 refine q_sto (o := 0) (cs := [.int .u64 ((dg 0 (mq (Hn c n x n)) : Nat) : Int), .int .u64 ((dg 1 (mq (Hn c n x n)) : Nat) : Int), .int .u64 ((dg 2 (mq (Hn c n x n)) : Nat) : Int), .int .u64 ((dg 3 (mq (Hn c n x n)) : Nat) : Int)]) (vs' := [.int .u64 ((dg 0 (mq (Hn c n x n)) : Nat) : Int), .int .u64 ((dg 1 (mq (Hn c n x n)) : Nat) : Int), .int .u64 ((dg 2 (mq (Hn c n x n)) : Nat) : Int), .int .u64 ((dg 3 (mq (Hn c n x n)) : Nat) : Int)]) hk hs rfl rfl rfl ty56 rfl rfl rfl rfl rfl rfl fun w hs => ?_
 refine c_end (x_t (wS (wR ?_)))
 refine q_v hk (w_ldv (z := mq (Hn c n x n)) rfl ty56 (.blk (n := 4) (hs.mi 0 rfl) rfl)) fun a hk => ?_
 have hs := hs.up3
 refine q_sto (o := 0) (cs := [.int .u64 ((dg 0 (mq (Hn c n x n)) : Nat) : Int), .int .u64 ((dg 1 (mq (Hn c n x n)) : Nat) : Int), .int .u64 ((dg 2 (mq (Hn c n x n)) : Nat) : Int), .int .u64 ((dg 3 (mq (Hn c n x n)) : Nat) : Int)]) (vs' := [.int .u64 ((dg 0 (mq (Hn c n x n)) : Nat) : Int), .int .u64 ((dg 1 (mq (Hn c n x n)) : Nat) : Int), .int .u64 ((dg 2 (mq (Hn c n x n)) : Nat) : Int), .int .u64 ((dg 3 (mq (Hn c n x n)) : Nat) : Int)]) hk hs rfl rfl rfl ty56 rfl rfl rfl rfl rfl rfl fun w hs => ?_
 refine c_end (x_t ?_)
 refine (wpIn_ret ?_)
 refine c_retG (vs := [vec (mq (Hn c n x n))]) hk rfl ⟨⟨_, rfl, lv_A ty56 (.blk (n := 4) (hs.mi 0 rfl) rfl) rfl⟩, trivial⟩ rfl ?_
 have hs := hs.drop
 have hs := hs.drop
 have hs := hs.up1
 have hs := hs.drop
 have hs := hs.up1
 have hs := hs.drop
 have hs := hs.up1
 have hs := hs.drop
 exact ⟨_, rfl, hT, hs⟩
theorem mul_m {F0 : Nat → Prop} {W : World} {M R : List Res} (s : Bool) (na ca nb cb : Nat) (aa ab : Option Addr) (pa pb : Nat → Zp s) (w0 : World) (hs : Sat F0 W M ((lst 4 (.slice aa na ca) na (en vq (fun i => mq (pa i)) na)) :: (lst 4 (.slice ab nb cb) nb (en vq (fun i => mq (pb i)) nb)) :: R) w0) (h0 : 0 < na) (h1 : 0 < nb) (hn9 : na ≤ 1000000) (hn8 : nb ≤ 1000000) : Calls Tryz.prog 145 [.pointer none, fieldV s, .slice aa na ca, .slice ab nb cb].toArray w0 fun e w => ∃ o, e = .returned (.slice (some ⟨o, 0, none⟩) (na + nb - 1) (na + nb - 1)) ∧ Sat F0 W (blk o (en vq (fun j => mq (mall pa pb nb na j)) (na + nb - 1)) 56 :: M) R w := by
 refine c_enter (args := [.pointer none, fieldV s, .slice aa na ca, .slice ab nb cb]) Tryz.func145 rfl rfl rfl fun a hk => ?_
 refine wS (wR ?_)
 refine q_box (vs := fieldL s) hk hs rfl rfl rfl rfl fun b1 w a hk hs => ?_
 refine q_v hk (w_as rfl) fun a hk => ?_
 refine c_end (x_t (wS (wS (wR ?_))))
 refine q_v hk (w_mv rfl) fun a hk => ?_
 refine q_v hk (w_len rfl Tryz.underlying51) fun a hk => ?_
 refine q_v hk (w_eq rfl rfl (decide_eq_false (by omega))) fun a hk => ?_
 refine q_v hk (w_mv rfl) fun a hk => ?_
 refine q_v hk (w_mv rfl) fun a hk => ?_
 refine q_v hk (w_len rfl Tryz.underlying51) fun a hk => ?_
 refine q_v hk (w_eq rfl rfl (decide_eq_false (by omega))) fun a hk => ?_
 refine q_v hk (w_pickF rfl rfl) fun a hk => ?_
 refine c_end (x_t ?_)
 refine c_F hk rfl ?_
 refine (wpIn_skip (x_t ?_))
 refine wS (wR ?_)
 refine q_v hk (w_mv rfl) fun a hk => ?_
 refine q_v hk (w_len rfl Tryz.underlying51) fun a hk => ?_
 refine q_v hk (w_mv rfl) fun a hk => ?_
 refine q_v hk (w_len rfl Tryz.underlying51) fun a hk => ?_
 refine q_v hk (w_add rfl rfl (wr64 (by omega) (by omega))) fun a hk => ?_
 refine q_v hk (w_sub (r := ((na + nb - 1 : Nat) : Int)) rfl rfl (by rw [wr64 (by omega) (by omega)]; omega)) fun a hk => ?_
 refine q_mks (k := na + nb - 1) (cs := vq 0) hk hs rfl rfl Tryz.underlying51 ty56 zr56 (by kernel_rfl) rfl rfl rfl rfl (by omega) (by omega) rfl rfl fun b2 w a hk hs => ?_
 have hs := hs.rw0 (show _ = blk b2 (en vq (fun _ => 0) (na + nb - 1)) 56 from rfl)
 refine q_v hk (w_as rfl) fun a hk => ?_
 refine c_end (x_t (wS (wS (wR ?_))))
 refine q_v hk (w_mv rfl) fun a hk => ?_
 refine q_v hk (w_len rfl Tryz.underlying51) fun a hk => ?_
 refine q_v hk (w_mv rfl) fun a hk => ?_
 refine c_end (x_t ?_)
 refine wpIn_block ?_
 have hs := hs.rw0 (congrArg (fun q => blk b2 q 56) (mall_zero (a := pa) (b := pb) (nb := nb)))
 refine c_loop (α := Nat) (fun u a w => u ≤ na ∧ Kn [] 67 [(31, .int .i64 ((u : Nat) : Int)), (30, .int .i64 ((na : Nat) : Int)), (29, .slice aa na ca), (9, .slice (some ⟨b2, 0, none⟩) (na + nb - 1) (na + nb - 1)), (8, .slice none 0 0), (5, .pointer (some ⟨b1, 0, none⟩)), (0, .pointer none), (3, .slice ab nb cb)] a ∧ Sat F0 W ((blk b2 (en vq (fun i => mq (mall pa pb nb u i)) (na + nb - 1)) 56) :: (blk b1 (fieldL s) 120) :: M) ((lst 4 (.slice aa na ca) na (en vq (fun i => mq (pa i)) na)) :: (lst 4 (.slice ab nb cb) nb (en vq (fun i => mq (pb i)) nb)) :: R) w) (fun u => na - u) 0 ?_ ?_
 · exact ⟨(by omega), hk.k rfl (hk.k rfl (hk.k rfl (hk.k rfl (hk.k rfl (hk.k rfl (hk.k rfl (hk.k rfl hk.nil))))))), hs⟩
 rintro u a w ⟨hf0, hk, hs⟩
 refine wS (wR ?_)
 rcases Classical.em (((u : Nat) : Int) < ((na : Nat) : Int)) with hc3 | hc3
 ·
  refine q_v hk (w_lt rfl rfl (decide_eq_true hc3)) fun a hk => ?_
  refine c_end (x_t (wS ?_))
  refine c_T hk rfl ?_
  refine (wpIn_skip (x_t ?_))
  refine wS ?_
  refine wpIn_block ?_
  refine wS (wR ?_)
  refine q_v hk (w_mv rfl) fun a hk => ?_
  refine q_v hk (w_iaL (k := u) rfl rfl Tryz.underlying51 ty56 (hs.ri 0 rfl) (by omega) (by omega)) fun a hk => ?_
  refine q_v hk (w_ldv (z := mq (pa u)) rfl ty56 (lstq (k := u) (hs.ri 0 rfl) (by omega) (en_chunk vq_len (by omega)))) fun a hk => ?_
  refine q_alc (vs := [.int .u64 0, .int .u64 0, .int .u64 0, .int .u64 0]) hk hs zr56 rfl rfl rfl fun b4 w a hk hs => ?_
  refine q_v hk (w_as rfl) fun a hk => ?_
  refine q_sto (o := 0) (cs := [.int .u64 ((dg 0 (mq (pa u)) : Nat) : Int), .int .u64 ((dg 1 (mq (pa u)) : Nat) : Int), .int .u64 ((dg 2 (mq (pa u)) : Nat) : Int), .int .u64 ((dg 3 (mq (pa u)) : Nat) : Int)]) (vs' := [.int .u64 ((dg 0 (mq (pa u)) : Nat) : Int), .int .u64 ((dg 1 (mq (pa u)) : Nat) : Int), .int .u64 ((dg 2 (mq (pa u)) : Nat) : Int), .int .u64 ((dg 3 (mq (pa u)) : Nat) : Int)]) hk hs rfl rfl rfl ty56 rfl rfl rfl rfl rfl rfl fun w hs => ?_
  refine c_end (x_t (wS (wR ?_)))
  refine q_v hk (w_mv rfl) fun a hk => ?_
  refine q_v hk (w_len rfl Tryz.underlying51) fun a hk => ?_
  refine q_v hk (w_mv rfl) fun a hk => ?_
  refine c_end (x_t ?_)
  refine wpIn_block ?_
  refine c_loop (α := Nat) (fun k a w => k ≤ nb ∧ Kn [] 67 [(38, .int .i64 ((k : Nat) : Int)), (37, .int .i64 ((nb : Nat) : Int)), (36, .slice ab nb cb), (10, .int .i64 ((u : Nat) : Int)), (11, .pointer (some ⟨b4, 0, none⟩)), (35, vec (mq (pa u))), (33, .int .i64 ((u : Nat) : Int)), (32, .bool true), (31, .int .i64 ((u : Nat) : Int)), (30, .int .i64 ((na : Nat) : Int)), (29, .slice aa na ca), (9, .slice (some ⟨b2, 0, none⟩) (na + nb - 1) (na + nb - 1)), (8, .slice none 0 0), (5, .pointer (some ⟨b1, 0, none⟩)), (0, .pointer none), (3, .slice ab nb cb)] a ∧ Sat F0 W ((blk b4 [.int .u64 ((dg 0 (mq (pa u)) : Nat) : Int), .int .u64 ((dg 1 (mq (pa u)) : Nat) : Int), .int .u64 ((dg 2 (mq (pa u)) : Nat) : Int), .int .u64 ((dg 3 (mq (pa u)) : Nat) : Int)] 56) :: (blk b2 (en vq (fun i => mq (mrow pa pb u (mall pa pb nb u) k i)) (na + nb - 1)) 56) :: (blk b1 (fieldL s) 120) :: M) ((lst 4 (.slice aa na ca) na (en vq (fun i => mq (pa i)) na)) :: (lst 4 (.slice ab nb cb) nb (en vq (fun i => mq (pb i)) nb)) :: R) w) (fun k => nb - k) 0 ?_ ?_
  · exact ⟨(by omega), hk.k rfl (hk.k rfl (hk.k rfl (hk.k rfl (hk.k rfl (hk.k rfl (hk.k rfl (hk.k rfl (hk.k rfl (hk.k rfl (hk.k rfl (hk.k rfl (hk.k rfl (hk.k rfl (hk.k rfl (hk.k rfl hk.nil))))))))))))))), hs⟩
  rintro k a w ⟨hf0, hk, hs⟩
  refine wS (wR ?_)
  rcases Classical.em (((k : Nat) : Int) < ((nb : Nat) : Int)) with hc5 | hc5
  ·
   refine q_v hk (w_lt rfl rfl (decide_eq_true hc5)) fun a hk => ?_
   refine c_end (x_t (wS ?_))
   refine c_T hk rfl ?_
   refine (wpIn_skip (x_t ?_))
   refine wS ?_
   refine wpIn_block ?_
   refine wS (wR ?_)
   refine q_v hk (w_mv rfl) fun a hk => ?_
   refine q_v hk (w_iaL (k := k) rfl rfl Tryz.underlying51 ty56 (hs.ri 1 rfl) (by omega) (by omega)) fun a hk => ?_
   refine q_v hk (w_ldv (z := mq (pb k)) rfl ty56 (lstq (k := k) (hs.ri 1 rfl) (by omega) (en_chunk vq_len (by omega)))) fun a hk => ?_
   refine q_alc (vs := [.int .u64 0, .int .u64 0, .int .u64 0, .int .u64 0]) hk hs zr56 rfl rfl rfl fun b6 w a hk hs => ?_
   refine q_v hk (w_as rfl) fun a hk => ?_
   refine q_sto (o := 0) (cs := [.int .u64 ((dg 0 (mq (pb k)) : Nat) : Int), .int .u64 ((dg 1 (mq (pb k)) : Nat) : Int), .int .u64 ((dg 2 (mq (pb k)) : Nat) : Int), .int .u64 ((dg 3 (mq (pb k)) : Nat) : Int)]) (vs' := [.int .u64 ((dg 0 (mq (pb k)) : Nat) : Int), .int .u64 ((dg 1 (mq (pb k)) : Nat) : Int), .int .u64 ((dg 2 (mq (pb k)) : Nat) : Int), .int .u64 ((dg 3 (mq (pb k)) : Nat) : Int)]) hk hs rfl rfl rfl ty56 rfl rfl rfl rfl rfl rfl fun w hs => ?_
   refine c_end (x_t (wS (wR ?_)))
   refine q_v hk (w_mv rfl) fun a hk => ?_
   refine q_v hk (w_mv rfl) fun a hk => ?_
   refine q_v hk (w_mv rfl) fun a hk => ?_
   refine q_call (caps := []) hk rfl rfl Tryz.func61 fo61 rfl rfl (note_n 3 ((u : Nat) : Int) ((k : Nat) : Int) _ hs) ?_
   rintro _ w ⟨v7, rfl, hs⟩
   refine ⟨_, rfl, fun a hk => ?_⟩
   refine c_end (x_t ?_)
   have hL := okL.cons (hs.mi 3 rfl) (okL.cons (hs.mi 1 rfl) (okL.cons (hs.mi 0 rfl) okL.nil))
   refine d_begin _ 18 (by kernel_rfl) rfl hs hL fun w hs hL => ?_
   refine d_join (n2 := 3) 32767 (fun a w => Kn [] 67 [(61, vec (mq ((pa u) * (pb k)))), (57, vec (mq (mrow pa pb u (mall pa pb nb u) k (u + k)))), (56, .pointer (some ((adq (some ⟨b2, 0, none⟩)).add ((u + k) * 4)))), (60, vec (mq (pb k))), (59, vec (mq (pa u))), (58, fieldV s), (55, .int .i64 ((u + k : Nat) : Int)), (54, .int .i64 ((k : Nat) : Int)), (53, .int .i64 ((u : Nat) : Int)), (52, .slice (some ⟨b2, 0, none⟩) (na + nb - 1) (na + nb - 1)), (51, fieldV s), (50, .int .i64 ((u + k : Nat) : Int)), (49, .int .i64 ((k : Nat) : Int)), (48, .int .i64 ((u : Nat) : Int)), (47, .slice (some ⟨b2, 0, none⟩) (na + nb - 1) (na + nb - 1)), (46, v7), (45, .int .i64 ((k : Nat) : Int)), (44, .int .i64 ((u : Nat) : Int)), (43, .pointer none), (12, .int .i64 ((k : Nat) : Int)), (13, .pointer (some ⟨b6, 0, none⟩)), (42, vec (mq (pb k))), (41, .pointer (some ((adq ab).add (k * 4)))), (40, .int .i64 ((k : Nat) : Int)), (39, .bool true), (38, .int .i64 ((k : Nat) : Int)), (37, .int .i64 ((nb : Nat) : Int)), (36, .slice ab nb cb), (10, .int .i64 ((u : Nat) : Int)), (11, .pointer (some ⟨b4, 0, none⟩)), (35, vec (mq (pa u))), (33, .int .i64 ((u : Nat) : Int)), (32, .bool true), (31, .int .i64 ((u : Nat) : Int)), (30, .int .i64 ((na : Nat) : Int)), (29, .slice aa na ca), (9, .slice (some ⟨b2, 0, none⟩) (na + nb - 1) (na + nb - 1)), (8, .slice none 0 0), (5, .pointer (some ⟨b1, 0, none⟩)), (0, .pointer none), (3, .slice ab nb cb)] a ∧ Sat F0 W ((blk b6 [.int .u64 ((dg 0 (mq (pb k)) : Nat) : Int), .int .u64 ((dg 1 (mq (pb k)) : Nat) : Int), .int .u64 ((dg 2 (mq (pb k)) : Nat) : Int), .int .u64 ((dg 3 (mq (pb k)) : Nat) : Int)] 56) :: (blk b4 [.int .u64 ((dg 0 (mq (pa u)) : Nat) : Int), .int .u64 ((dg 1 (mq (pa u)) : Nat) : Int), .int .u64 ((dg 2 (mq (pa u)) : Nat) : Int), .int .u64 ((dg 3 (mq (pa u)) : Nat) : Int)] 56) :: (blk b2 (en vq (fun i => mq (mrow pa pb u (mall pa pb nb u) k i)) (na + nb - 1)) 56) :: (blk b1 (fieldL s) 120) :: M) ((lst 4 (.slice aa na ca) na (en vq (fun i => mq (pa i)) na)) :: (lst 4 (.slice ab nb cb) nb (en vq (fun i => mq (pb i)) nb)) :: R) w ∧ okL [blk b1 (fieldL s) 120, blk b4 [.int .u64 ((dg 0 (mq (pa u)) : Nat) : Int), .int .u64 ((dg 1 (mq (pa u)) : Nat) : Int), .int .u64 ((dg 2 (mq (pa u)) : Nat) : Int), .int .u64 ((dg 3 (mq (pa u)) : Nat) : Int)] 56, blk b6 [.int .u64 ((dg 0 (mq (pb k)) : Nat) : Int), .int .u64 ((dg 1 (mq (pb k)) : Nat) : Int), .int .u64 ((dg 2 (mq (pb k)) : Nat) : Int), .int .u64 ((dg 3 (mq (pb k)) : Nat) : Int)] 56] w) ?_ ?_
   ·
    intro hJ32767
    refine d_join (n2 := 4) 31743 (fun a w => Kn [] 67 [(61, vec (mq ((pa u) * (pb k)))), (56, .pointer (some ((adq (some ⟨b2, 0, none⟩)).add ((u + k) * 4)))), (60, vec (mq (pb k))), (59, vec (mq (pa u))), (58, fieldV s), (55, .int .i64 ((u + k : Nat) : Int)), (54, .int .i64 ((k : Nat) : Int)), (53, .int .i64 ((u : Nat) : Int)), (52, .slice (some ⟨b2, 0, none⟩) (na + nb - 1) (na + nb - 1)), (51, fieldV s), (50, .int .i64 ((u + k : Nat) : Int)), (49, .int .i64 ((k : Nat) : Int)), (48, .int .i64 ((u : Nat) : Int)), (47, .slice (some ⟨b2, 0, none⟩) (na + nb - 1) (na + nb - 1)), (46, v7), (45, .int .i64 ((k : Nat) : Int)), (44, .int .i64 ((u : Nat) : Int)), (43, .pointer none), (12, .int .i64 ((k : Nat) : Int)), (13, .pointer (some ⟨b6, 0, none⟩)), (42, vec (mq (pb k))), (41, .pointer (some ((adq ab).add (k * 4)))), (40, .int .i64 ((k : Nat) : Int)), (39, .bool true), (38, .int .i64 ((k : Nat) : Int)), (37, .int .i64 ((nb : Nat) : Int)), (36, .slice ab nb cb), (10, .int .i64 ((u : Nat) : Int)), (11, .pointer (some ⟨b4, 0, none⟩)), (35, vec (mq (pa u))), (33, .int .i64 ((u : Nat) : Int)), (32, .bool true), (31, .int .i64 ((u : Nat) : Int)), (30, .int .i64 ((na : Nat) : Int)), (29, .slice aa na ca), (9, .slice (some ⟨b2, 0, none⟩) (na + nb - 1) (na + nb - 1)), (8, .slice none 0 0), (5, .pointer (some ⟨b1, 0, none⟩)), (0, .pointer none), (3, .slice ab nb cb)] a ∧ Sat F0 W ((blk b6 [.int .u64 ((dg 0 (mq (pb k)) : Nat) : Int), .int .u64 ((dg 1 (mq (pb k)) : Nat) : Int), .int .u64 ((dg 2 (mq (pb k)) : Nat) : Int), .int .u64 ((dg 3 (mq (pb k)) : Nat) : Int)] 56) :: (blk b4 [.int .u64 ((dg 0 (mq (pa u)) : Nat) : Int), .int .u64 ((dg 1 (mq (pa u)) : Nat) : Int), .int .u64 ((dg 2 (mq (pa u)) : Nat) : Int), .int .u64 ((dg 3 (mq (pa u)) : Nat) : Int)] 56) :: (blk b2 (en vq (fun i => mq (mrow pa pb u (mall pa pb nb u) k i)) (na + nb - 1)) 56) :: (blk b1 (fieldL s) 120) :: M) ((lst 4 (.slice aa na ca) na (en vq (fun i => mq (pa i)) na)) :: (lst 4 (.slice ab nb cb) nb (en vq (fun i => mq (pb i)) nb)) :: R) w ∧ okL [blk b1 (fieldL s) 120, blk b4 [.int .u64 ((dg 0 (mq (pa u)) : Nat) : Int), .int .u64 ((dg 1 (mq (pa u)) : Nat) : Int), .int .u64 ((dg 2 (mq (pa u)) : Nat) : Int), .int .u64 ((dg 3 (mq (pa u)) : Nat) : Int)] 56, blk b6 [.int .u64 ((dg 0 (mq (pb k)) : Nat) : Int), .int .u64 ((dg 1 (mq (pb k)) : Nat) : Int), .int .u64 ((dg 2 (mq (pb k)) : Nat) : Int), .int .u64 ((dg 3 (mq (pb k)) : Nat) : Int)] 56] w) ?_ ?_
    ·
     intro hJ31743
     refine d_w 0 1 hk hL rfl (fun w hL => w_mv rfl) fun a hk => ?_
     refine d_w 1 3 hk hL rfl (fun w hL => w_mv rfl) fun a hk => ?_
     refine d_w 2 7 hk hL rfl (fun w hL => w_mv rfl) fun a hk => ?_
     refine d_w 3 15 hk hL rfl (fun w hL => w_add (r := ((u + k : Nat) : Int)) rfl rfl (by rw [wr64 (by omega) (by omega)]; omega)) fun a hk => ?_
     refine d_w 4 31 hk hL rfl (fun w hL => w_ldA rfl ty120 (.blk (n := 14) (hL.at 0 rfl) rfl) rfl) fun a hk => ?_
     refine d_w 5 63 hk hL rfl (fun w hL => w_mv rfl) fun a hk => ?_
     refine d_w 6 127 hk hL rfl (fun w hL => w_mv rfl) fun a hk => ?_
     refine d_w 7 255 hk hL rfl (fun w hL => w_mv rfl) fun a hk => ?_
     refine d_w 8 511 hk hL rfl (fun w hL => w_add (r := ((u + k : Nat) : Int)) rfl rfl (by rw [wr64 (by omega) (by omega)]; omega)) fun a hk => ?_
     refine d_w 11 2559 hk hL rfl (fun w hL => w_ldA rfl ty120 (.blk (n := 14) (hL.at 0 rfl) rfl) rfl) fun a hk => ?_
     refine d_w 12 6655 hk hL rfl (fun w hL => w_ldv (z := mq (pa u)) rfl ty56 (.blk (n := 4) (hL.at 1 rfl) rfl)) fun a hk => ?_
     refine d_w 13 14847 hk hL rfl (fun w hL => w_ldv (z := mq (pb k)) rfl ty56 (.blk (n := 4) (hL.at 2 rfl) rfl)) fun a hk => ?_
     refine d_2 9 14 15359 31231 rfl rfl (by kernel_rfl) (fun K hK => ?_) (fun K hK => ?_)
     ·
      refine q_v hk (w_iaL (k := u + k) rfl rfl Tryz.underlying51 ty56 (blk_lst (hs.mi 2 rfl) (en_len vq_len) (Nat.le_refl _)) (by omega) (by omega)) fun a hk => ?_
      have hL := okL.cons (hs.mi 3 rfl) (okL.cons (hs.mi 1 rfl) (okL.cons (hs.mi 0 rfl) okL.nil))
      refine c_end (x_t (hK _ _ hL ?_))
      clear hK K
      refine d_2 10 14 16383 31743 rfl rfl (by kernel_rfl) (fun K hK => ?_) (fun K hK => ?_)
      ·
       refine q_v hk (w_ldv (z := mq (mrow pa pb u (mall pa pb nb u) k (u + k))) rfl ty56 (lstq (k := u + k) (blk_lst (hs.mi 2 rfl) (en_len vq_len) (Nat.le_refl _)) (by omega) (en_chunk vq_len (by omega)))) fun a hk => ?_
       have hL := okL.cons (hs.mi 3 rfl) (okL.cons (hs.mi 1 rfl) (okL.cons (hs.mi 0 rfl) okL.nil))
       refine c_end (x_t (hK _ _ hL ?_))
       clear hK K
       refine d_1 14 32767 rfl (by kernel_rfl) fun K hK => ?_
       refine q_call (caps := []) hk rfl rfl Tryz.func120 fo120 rfl rfl (zmul_c (x := (pa u)) (y := (pb k)) _ rfl rfl) ?_
       rintro _ w ⟨rfl, hb⟩
       have hs := hs.below hb
       refine ⟨_, rfl, fun a hk => ?_⟩
       have hL := okL.cons (hs.mi 3 rfl) (okL.cons (hs.mi 1 rfl) (okL.cons (hs.mi 0 rfl) okL.nil))
       refine c_end (x_t (hK _ _ hL ?_))
       clear hK K
       have hL := okL.cons (hs.mi 3 rfl) (okL.cons (hs.mi 1 rfl) (okL.cons (hs.mi 0 rfl) okL.nil))
       exact hJ32767 _ _ ⟨hk.k rfl (hk.k rfl (hk.k rfl (hk.k rfl (hk.k rfl (hk.k rfl (hk.k rfl (hk.k rfl (hk.k rfl (hk.k rfl (hk.k rfl (hk.k rfl (hk.k rfl (hk.k rfl (hk.k rfl (hk.k rfl (hk.k rfl (hk.k rfl (hk.k rfl (hk.k rfl (hk.k rfl (hk.k rfl (hk.k rfl (hk.k rfl (hk.k rfl (hk.k rfl (hk.k rfl (hk.k rfl (hk.k rfl (hk.k rfl (hk.k rfl (hk.k rfl (hk.k rfl (hk.k rfl (hk.k rfl (hk.k rfl (hk.k rfl (hk.k rfl (hk.k rfl (hk.k rfl (hk.k rfl hk.nil)))))))))))))))))))))))))))))))))))))))), hs, hL⟩
      ·
       refine q_call (caps := []) hk rfl rfl Tryz.func120 fo120 rfl rfl (zmul_c (x := (pa u)) (y := (pb k)) _ rfl rfl) ?_
       rintro _ w ⟨rfl, hb⟩
       have hs := hs.below hb
       refine ⟨_, rfl, fun a hk => ?_⟩
       have hL := okL.cons (hs.mi 3 rfl) (okL.cons (hs.mi 1 rfl) (okL.cons (hs.mi 0 rfl) okL.nil))
       refine c_end (x_t (hK _ _ hL ?_))
       clear hK K
       have hL := okL.cons (hs.mi 3 rfl) (okL.cons (hs.mi 1 rfl) (okL.cons (hs.mi 0 rfl) okL.nil))
       exact hJ31743 _ _ ⟨hk.k rfl (hk.k rfl (hk.k rfl (hk.k rfl (hk.k rfl (hk.k rfl (hk.k rfl (hk.k rfl (hk.k rfl (hk.k rfl (hk.k rfl (hk.k rfl (hk.k rfl (hk.k rfl (hk.k rfl (hk.k rfl (hk.k rfl (hk.k rfl (hk.k rfl (hk.k rfl (hk.k rfl (hk.k rfl (hk.k rfl (hk.k rfl (hk.k rfl (hk.k rfl (hk.k rfl (hk.k rfl (hk.k rfl (hk.k rfl (hk.k rfl (hk.k rfl (hk.k rfl (hk.k rfl (hk.k rfl (hk.k rfl (hk.k rfl (hk.k rfl (hk.k rfl (hk.k rfl hk.nil))))))))))))))))))))))))))))))))))))))), hs, hL⟩
     ·
      refine q_call (caps := []) hk rfl rfl Tryz.func120 fo120 rfl rfl (zmul_c (x := (pa u)) (y := (pb k)) _ rfl rfl) ?_
      rintro _ w ⟨rfl, hb⟩
      have hs := hs.below hb
      refine ⟨_, rfl, fun a hk => ?_⟩
      have hL := okL.cons (hs.mi 3 rfl) (okL.cons (hs.mi 1 rfl) (okL.cons (hs.mi 0 rfl) okL.nil))
      refine c_end (x_t (hK _ _ hL ?_))
      clear hK K
      refine d_1 9 31743 rfl (by kernel_rfl) fun K hK => ?_
      refine q_v hk (w_iaL (k := u + k) rfl rfl Tryz.underlying51 ty56 (blk_lst (hs.mi 2 rfl) (en_len vq_len) (Nat.le_refl _)) (by omega) (by omega)) fun a hk => ?_
      have hL := okL.cons (hs.mi 3 rfl) (okL.cons (hs.mi 1 rfl) (okL.cons (hs.mi 0 rfl) okL.nil))
      refine c_end (x_t (hK _ _ hL ?_))
      clear hK K
      have hL := okL.cons (hs.mi 3 rfl) (okL.cons (hs.mi 1 rfl) (okL.cons (hs.mi 0 rfl) okL.nil))
      exact hJ31743 _ _ ⟨hk.k rfl (hk.k rfl (hk.k rfl (hk.k rfl (hk.k rfl (hk.k rfl (hk.k rfl (hk.k rfl (hk.k rfl (hk.k rfl (hk.k rfl (hk.k rfl (hk.k rfl (hk.k rfl (hk.k rfl (hk.k rfl (hk.k rfl (hk.k rfl (hk.k rfl (hk.k rfl (hk.k rfl (hk.k rfl (hk.k rfl (hk.k rfl (hk.k rfl (hk.k rfl (hk.k rfl (hk.k rfl (hk.k rfl (hk.k rfl (hk.k rfl (hk.k rfl (hk.k rfl (hk.k rfl (hk.k rfl (hk.k rfl (hk.k rfl (hk.k rfl (hk.k rfl (hk.k rfl hk.nil))))))))))))))))))))))))))))))))))))))), hs, hL⟩
    ·
     rintro a w ⟨hk, hs, hL⟩
     refine d_1 10 32767 rfl (by kernel_rfl) fun K hK => ?_
     refine q_v hk (w_ldv (z := mq (mrow pa pb u (mall pa pb nb u) k (u + k))) rfl ty56 (lstq (k := u + k) (blk_lst (hs.mi 2 rfl) (en_len vq_len) (Nat.le_refl _)) (by omega) (en_chunk vq_len (by omega)))) fun a hk => ?_
     have hL := okL.cons (hs.mi 3 rfl) (okL.cons (hs.mi 1 rfl) (okL.cons (hs.mi 0 rfl) okL.nil))
     refine c_end (x_t (hK _ _ hL ?_))
     clear hK K
     have hL := okL.cons (hs.mi 3 rfl) (okL.cons (hs.mi 1 rfl) (okL.cons (hs.mi 0 rfl) okL.nil))
     exact hJ32767 _ _ ⟨hk.k rfl (hk.k rfl (hk.k rfl (hk.k rfl (hk.k rfl (hk.k rfl (hk.k rfl (hk.k rfl (hk.k rfl (hk.k rfl (hk.k rfl (hk.k rfl (hk.k rfl (hk.k rfl (hk.k rfl (hk.k rfl (hk.k rfl (hk.k rfl (hk.k rfl (hk.k rfl (hk.k rfl (hk.k rfl (hk.k rfl (hk.k rfl (hk.k rfl (hk.k rfl (hk.k rfl (hk.k rfl (hk.k rfl (hk.k rfl (hk.k rfl (hk.k rfl (hk.k rfl (hk.k rfl (hk.k rfl (hk.k rfl (hk.k rfl (hk.k rfl (hk.k rfl (hk.k rfl (hk.k rfl hk.nil)))))))))))))))))))))))))))))))))))))))), hs, hL⟩
   ·
    rintro a w ⟨hk, hs, hL⟩
    refine d_1 15 65535 rfl (by kernel_rfl) fun K hK => ?_
    refine q_call (caps := []) hk rfl rfl Tryz.func121 fo121 rfl rfl (zadd_c (x := (mrow pa pb u (mall pa pb nb u) k (u + k))) (y := ((pa u) * (pb k))) _ rfl rfl) ?_
    rintro _ w ⟨rfl, hb⟩
    have hs := hs.below hb
    refine ⟨_, rfl, fun a hk => ?_⟩
    have hL := okL.cons (hs.mi 3 rfl) (okL.cons (hs.mi 1 rfl) (okL.cons (hs.mi 0 rfl) okL.nil))
    refine c_end (x_t (hK _ _ hL ?_))
    clear hK K
    refine d_1 16 131071 rfl (by kernel_rfl) fun K hK => ?_
    refine q_v hk (w_iaL (k := u + k) rfl rfl Tryz.underlying51 ty56 (blk_lst (hs.mi 2 rfl) (en_len vq_len) (Nat.le_refl _)) (by omega) (by omega)) fun a hk => ?_
    have hL := okL.cons (hs.mi 3 rfl) (okL.cons (hs.mi 1 rfl) (okL.cons (hs.mi 0 rfl) okL.nil))
    refine c_end (x_t (hK _ _ hL ?_))
    clear hK K
    refine d_1 17 262143 rfl (by kernel_rfl) fun K hK => ?_
    have hs := hs.up2
    refine q_stoE (c := vq) (xx := (mq ((mrow pa pb u (mall pa pb nb u) k (u + k)) + ((pa u) * (pb k))))) (k := (u + k)) hk hs rfl rfl rfl ty56 rfl vq_len rfl (by omega) rfl fun w hs => ?_
    have hL := okL.cons (hs.mi 3 rfl) (okL.cons (hs.mi 2 rfl) (okL.cons (hs.mi 1 rfl) okL.nil))
    refine c_end (x_t (hK _ _ hL ?_))
    clear hK K
    refine d_end (by kernel_rfl) ?_
    refine (x_b (x_t ?_))
    refine wR ?_
    refine q_v hk (w_add rfl rfl (wr64 (by omega) (by omega))) fun a hk => ?_
    refine q_v hk (w_mv rfl) fun a hk => ?_
    refine c_end (x_t ?_)
    have hs := hs.rw0 (congrArg (fun q => blk b2 q 56) mrow_step)
    have hs := hs.up1
    have hs := hs.drop
    have hs := hs.up2
    have hs := hs.up1
    have hs := hs.up2
    exact ⟨k + 1, ⟨(by omega), hk.k rfl (hk.k rfl (hk.k rfl (hk.k rfl (hk.k rfl (hk.k rfl (hk.k rfl (hk.k rfl (hk.k rfl (hk.k rfl (hk.k rfl (hk.k rfl (hk.k rfl (hk.k rfl (hk.k rfl (hk.k rfl hk.nil))))))))))))))), hs⟩, by omega⟩
  ·
   refine q_v hk (w_lt rfl rfl (decide_eq_false hc5)) fun a hk => ?_
   refine c_end (x_t (wS ?_))
   refine c_F hk rfl ?_
   refine (wpIn_exit (x_te (x_te (x_be ?_))))
   refine (x_b (x_t ?_))
   refine wR ?_
   refine q_v hk (w_add rfl rfl (wr64 (by omega) (by omega))) fun a hk => ?_
   refine q_v hk (w_mv rfl) fun a hk => ?_
   refine c_end (x_t ?_)
   have hknb : k = nb := by omega
   rw [hknb] at hs
   have hs := hs.drop
   exact ⟨u + 1, ⟨(by omega), hk.k rfl (hk.k rfl (hk.k rfl (hk.k rfl (hk.k rfl (hk.k rfl (hk.k rfl (hk.k rfl hk.nil))))))), hs⟩, by omega⟩
 ·
  refine q_v hk (w_lt rfl rfl (decide_eq_false hc3)) fun a hk => ?_
  refine c_end (x_t (wS ?_))
  refine c_F hk rfl ?_
  refine (wpIn_exit (x_te (x_te (x_be ?_))))
  refine (x_t ?_)
  refine wS (wR ?_)
  refine q_v hk (w_mv rfl) fun a hk => ?_
  refine q_v hk (w_as rfl) fun a hk => ?_
  refine c_end (x_t ?_)
  refine (wpIn_ret ?_)
  refine c_ret1 hk rfl rfl ?_
  have hs := hs.up1
  have hs := hs.drop
  have hs := hs.toR (R' := R) (fun r hr => .of (by simp [hr]))
  have hina : u = na := by omega
  subst hina
  exact ⟨_, rfl, hs⟩
end Go.Proofs.YtdnkkbmpefhbjaaGreatDoor
namespace Go.Proofs.YtdnkkbmpefhbjaaGreatDoor
set_option linter.all false
open Go Go.RowKit
/-- A map with the keys ks, of which the values have V. -/
def mapI (V : Value → Prop) (b : Nat) (ks : List Int) : Res where
  foot := (· = b)
  ok w := ∃ es clock, w.heap[b]? = some (.map es clock) ∧ es.toList.map (·.key) = ks.map (fun k => Value.int .i64 k) ∧ ∀ x ∈ es.toList, V x.val
  loc w w' h k := by
    obtain ⟨es, clock, h1, h2⟩ := k
    exact ⟨es, clock, by rw [h b rfl]; exact h1, h2⟩
  lt w k h hk := by
    subst hk
    obtain ⟨es, clock, h1, h2⟩ := h
    exact (Array.getElem?_eq_some_iff.1 h1).1
def ins (ks : List Int) (k : Int) : List Int := if k ∈ ks then ks else ks ++ [k]
def isI (v : Value) : Prop := ∃ u, v = .int .i64 u
section
variable {V : Value → Prop} {b : Nat} {ks : List Int}
theorem keys_isKey {es : Array MapEntry} (h : es.toList.map (·.key) = ks.map (fun k => Value.int .i64 k)) : ∀ x ∈ es.toList, MapKept.IsKey (.int .i64) x.key := by
  intro x hx
  have : x.key ∈ es.toList.map (·.key) := List.mem_map_of_mem hx
  rw [h] at this
  obtain ⟨k, _, hk⟩ := List.mem_map.1 this
  rw [← hk]
  exact rfl
theorem key_mem {es : Array MapEntry} {k : Int} (h : es.toList.map (·.key) = ks.map (fun k => Value.int .i64 k)) : (∃ x ∈ es.toList, x.key = .int .i64 k) ↔ k ∈ ks := by
  constructor
  · rintro ⟨x, hx, hk⟩
    have : x.key ∈ es.toList.map (·.key) := List.mem_map_of_mem hx
    rw [h, hk] at this
    obtain ⟨k', h1, h2⟩ := List.mem_map.1 this
    cases h2
    exact h1
  · intro hk
    have : Value.int .i64 k ∈ ks.map (fun k => Value.int .i64 k) := List.mem_map_of_mem hk
    rw [← h] at this
    obtain ⟨x, hx, he⟩ := List.mem_map.1 this
    exact ⟨x, hx, he⟩
variable {r : Option Nat} {n N : Nat} {P : Program} {ops : Array Oper} {Q : Exit → Act → World → Prop} {rest : List Oper} {G : List (Nat × Value)} {a : Act} {w w' : World} {v : Value} {Ds : List Nat}
  {d T : Nat} {p : String} {e : Array Edge} {g : Option (Nat × Bool)} {x y z : Operand} {tx kt et : TypeId} {F0 : Nat → Prop} {W : World} {M R : List Res}
theorem q_mkm (V : Value → Prop) (hk : Kn Ds N G a) (hs : Sat F0 W M R w) (hd : Nat.ble (d + 1) N = true) (hg : wq ops G g = some true)
    (h : ∀ b w a, Kn Ds N ((d, .map (some b)) :: G) a → Sat F0 W (mapI V b [] :: M) R w → wpListIn (Fr r) n P ops Q rest a w) : wpListIn (Fr r) n P ops Q (⟨some d, .makeMap tx none, T, p, e, g⟩ :: rest) a w := by
  refine q_val (v := .map (some w.heap.size)) (w' := w.alloc (.map #[] 0)) hk (fun Ds N a hk => ?_) hd rfl hg fun a hk => h _ _ a hk ?_
  · simp [execOp, Instr.makeMap, newObj, Sem.run_bind, Sem.run_pure, Result.andThen_ok, go_sem]
    rfl
  · exact hs.new (.alloc _ _ _) ⟨#[], 0, World.alloc_heap_new w _, rfl, by simp⟩ fun k hk => Nat.le_of_eq hk.symm
theorem q_mup {k : Int} (hk : Kn Ds N G a) (hs : Sat F0 W (mapI V b ks :: M) R w) (hx : evq G x = some (.map (some b))) (hy : evq G y = some (.int .i64 k)) (hz : evq G z = some v) (hV : V v) (hu : P.underlying tx = some (.map kt et)) (hkt : P.underlying kt = some (.int .i64)) (hg : wq ops G g = some true)
    (h : ∀ w, Sat F0 W (mapI V b (ins ks k) :: M) R w → wpListIn (Fr r) n P ops Q rest a w) : wpListIn (Fr r) n P ops Q (⟨none, .mapUpdate tx x y z, T, p, e, g⟩ :: rest) a w := by
  obtain ⟨es, clock, hb, hks, hVs⟩ := hs.okM _ (.head _)
  have hkey : MapKept.IsKey (.int .i64) (Value.int .i64 k) := rfl
  have e1 := hk.eval hx
  have e2 := hk.eval hy
  have e3 := hk.eval hz
  rcases MapKept.findNow_spec hkey es.toList 0 (keys_isKey hks) with ⟨h1, h2⟩ | ⟨j, e0, h1, h2, h3⟩
  · have hrun : (Instr.mapUpdate tx (.map (some b)) (.int .i64 k) v).run P w = .ok () (w.putObj b (.map (es.push { key := .int .i64 k, val := v, born := clock }) (clock + 1))) := by
      simp only [Instr.mapUpdate, Sem.run_bind, run_underlying hu, Result.andThen_ok, MapKept.run_getObj_map hb, MapKept.run_checkKey hkt hkey, MapKept.run_findKey hkt h1]
      exact MapKept.run_setObj_map _ hb
    refine q_st (w' := w.putObj b (.map (es.push { key := .int .i64 k, val := v, born := clock }) (clock + 1))) hk (fun Ds' N' a' hk' => ?_) rfl hg (h _ ?_)
    · have e1 := hk'.eval hx
      have e2 := hk'.eval hy
      have e3 := hk'.eval hz
      generalize a'.eval = ev at e1 e2 e3
      simp only [execOp, e1, e2, e3, Sem.run_bind, hrun, Result.andThen_ok, Sem.run_pure]
    · refine hs.chg (.putObj _ _ _) ⟨_, _, World.putObj_heap_same (Array.getElem?_eq_some_iff.1 hb).1, ?_, ?_⟩ fun _ hk => .inl hk
      · have hn : k ∉ ks := fun hm => by obtain ⟨x, hx, he⟩ := (key_mem hks).2 hm; exact h2 x hx he
        unfold ins
        rw [if_neg hn, Array.toList_push, List.map_append, List.map_append, hks]
        rfl
      · intro x hx
        rw [Array.toList_push] at hx
        rcases List.mem_append.1 hx with hx | hx
        · exact hVs x hx
        · rcases List.mem_singleton.1 hx with rfl; exact hV
  · rw [Nat.zero_add] at h1
    have he : es[j]? = some e0 := by rw [← Array.getElem?_toList]; exact h2
    have hrun : (Instr.mapUpdate tx (.map (some b)) (.int .i64 k) v).run P w = .ok () (w.putObj b (.map (es.modify j fun e => { e with key := .int .i64 k, val := v }) clock)) := by
      simp only [Instr.mapUpdate, Sem.run_bind, run_underlying hu, Result.andThen_ok, MapKept.run_getObj_map hb, MapKept.run_checkKey hkt hkey, MapKept.run_findKey hkt h1, he, Option.map_some, Option.getD_some, h3, MapKept.run_keyThatStays hkey]
      exact MapKept.run_setObj_map _ hb
    refine q_st (w' := w.putObj b (.map (es.modify j fun e => { e with key := .int .i64 k, val := v }) clock)) hk (fun Ds' N' a' hk' => ?_) rfl hg (h _ ?_)
    · have e1 := hk'.eval hx
      have e2 := hk'.eval hy
      have e3 := hk'.eval hz
      generalize a'.eval = ev at e1 e2 e3
      simp only [execOp, e1, e2, e3, Sem.run_bind, hrun, Result.andThen_ok, Sem.run_pure]
    · refine hs.chg (.putObj _ _ _) ⟨_, _, World.putObj_heap_same (Array.getElem?_eq_some_iff.1 hb).1, ?_, ?_⟩ fun _ hk => .inl hk
      · have hm : k ∈ ks := (key_mem hks).1 ⟨e0, List.mem_of_getElem? h2, h3⟩
        unfold ins
        rw [if_pos hm, ← hks]
        exact MapKept.modify_keys j _ fun e he' => by rw [he] at he'; cases he'; exact h3.symm
      · intro x hx
        obtain ⟨i, hi⟩ := List.mem_iff_getElem?.1 hx
        rw [Array.getElem?_toList, Array.getElem?_modify] at hi
        split at hi
        · obtain ⟨e5, _, rfl⟩ := Option.map_eq_some_iff.1 hi
          exact hV
        · exact hVs x (List.mem_of_getElem? (by rw [Array.getElem?_toList]; exact hi))
theorem w_lkm {z : Value} {k : Int} (hm : (mapI V b ks).ok w) (hx : evq G x = some (.map (some b))) (hy : evq G y = some (.int .i64 k)) (hu : P.underlying tx = some (.map kt et)) (hkt : P.underlying kt = some (.int .i64)) (hz : zq P et = some z) (hV : V z) :
    ∃ v, V v ∧ Wq P G ⟨some d, .lookup tx x y false, T, p, e, g⟩ v w w := by
  obtain ⟨es, clock, hb, hks, hVs⟩ := hm
  have hkey : MapKept.IsKey (.int .i64) (Value.int .i64 k) := rfl
  rcases MapKept.findNow_spec hkey es.toList 0 (keys_isKey hks) with ⟨h1, h2⟩ | ⟨j, e0, h1, h2, h3⟩
  · refine ⟨z, hV, .of2 hx hy fun ev e1 e2 => ?_⟩
    simp only [execOp, e1, e2, Instr.lookup, Sem.run_bind, run_underlying hu, Result.andThen_ok, MapKept.run_getObj_map hb, Sem.run_pure, MapKept.run_checkKey hkt hkey, MapKept.run_findKey hkt h1, zq_zero hz]
    rfl
  · refine ⟨e0.val, hVs e0 (List.mem_of_getElem? h2), .of2 hx hy fun ev e1 e2 => ?_⟩
    simp only [execOp, e1, e2, Instr.lookup, Sem.run_bind, run_underlying hu, Result.andThen_ok, MapKept.run_getObj_map hb, Sem.run_pure, MapKept.run_checkKey hkt hkey, MapKept.run_findKey hkt h1]
    rfl
theorem q_lkm {z : Value} {k : Int} (hk : Kn Ds N G a) (hm : (mapI V b ks).ok w) (hx : evq G x = some (.map (some b))) (hy : evq G y = some (.int .i64 k)) (hu : P.underlying tx = some (.map kt et)) (hkt : P.underlying kt = some (.int .i64)) (hz : zq P et = some z) (hV : V z)
    (hd : Nat.ble (d + 1) N = true) (hg : wq ops G g = some true) (h : ∀ v a, V v → Kn Ds N ((d, v) :: G) a → wpListIn (Fr r) n P ops Q rest a w) : wpListIn (Fr r) n P ops Q (⟨some d, .lookup tx x y false, T, p, e, g⟩ :: rest) a w := by
  obtain ⟨v, hV', hw⟩ := w_lkm hm hx hy hu hkt hz hV
  exact q_val hk hw hd rfl hg fun a hk => h v a hV' hk
theorem w_lnm (hm : (mapI V b ks).ok w) (hx : evq G x = some (.map (some b))) (hu : P.underlying tx = some (.map kt et)) : Wq P G ⟨some d, .call ⟨.builtin .len, #[x], #[tx]⟩, T, p, e, g⟩ (.int .i64 ((ks.length : Nat) : Int)) w w := by
  obtain ⟨es, clock, hb, hks, hVs⟩ := hm
  have hl : es.size = ks.length := by have := congrArg List.length hks; simpa using this
  refine .of1 hx fun ev h => ?_
  simp [execOp, h, resolve, invoke, builtin, Builtin.len_, run_underlying hu, MapKept.run_getObj_map hb, goInt, Sem.run_pure, go_sem, hl]
end
/-! How many keys there are. -/
theorem ins_le (l : List Int) (ks : List Int) : (l.foldl ins ks).length ≤ ks.length + l.length := by
  induction l generalizing ks with
  | nil => simp
  | cons x l ih =>
    rw [List.foldl_cons]
    have := ih (ins ks x)
    have : (ins ks x).length ≤ ks.length + 1 := by unfold ins; split <;> simp
    simp only [List.length_cons]; omega
theorem ins_eq (l : List Int) (ks : List Int) : (l.foldl ins ks).length = ks.length + l.length ↔ (l.Nodup ∧ ∀ x ∈ l, x ∉ ks) := by
  induction l generalizing ks with
  | nil => simp
  | cons x l ih =>
    rw [List.foldl_cons]
    have h1 := ins_le l (ins ks x)
    by_cases hx : x ∈ ks
    · have e : ins ks x = ks := if_pos hx
      rw [e] at h1 ⊢
      constructor
      · intro h; simp only [List.length_cons] at h; omega
      · rintro ⟨_, h⟩; exact absurd hx (h x (.head _))
    · have e : ins ks x = ks ++ [x] := if_neg hx
      rw [e]
      have h2 := ih (ks ++ [x])
      rw [List.length_append, List.length_singleton] at h2
      rw [List.length_cons, show ks.length + (l.length + 1) = ks.length + 1 + l.length by omega, h2]
      simp only [List.nodup_cons, List.mem_append, List.mem_singleton, not_or, List.mem_cons]
      constructor
      · rintro ⟨h3, h4⟩
        refine ⟨⟨fun hm => (h4 x hm).2.1 rfl, h3⟩, ?_⟩
        rintro z (rfl | hz)
        · exact hx
        · exact (h4 z hz).1
      · rintro ⟨⟨h3, h4⟩, h5⟩
        exact ⟨h4, fun z hz => ⟨h5 z (.inr hz), fun he => h3 (he ▸ hz), fun h => by cases h⟩⟩
end Go.Proofs.YtdnkkbmpefhbjaaGreatDoor
namespace Go.Proofs.YtdnkkbmpefhbjaaGreatDoor
set_option linter.all false
open Go Go.RowKit Alg
/-- The keys after k elements. -/
def ksv (v : Nat → Int) (k : Nat) : List Int := ((List.range k).map v).foldl ins []
theorem ksv_succ (v : Nat → Int) (k : Nat) : ins (ksv v k) (v k) = ksv v (k + 1) := by simp [ksv, List.range_succ]
theorem ksv_full {v : Nat → Int} {n : Nat} (h : ∀ i k, i < k → k < n → v i ≠ v k) : (ksv v n).length = n := by
  have hn : ((List.range n).map v).Nodup := by
    rw [List.nodup_iff_pairwise_ne, List.pairwise_map, List.pairwise_iff_getElem]
    intro i j hi hj hij
    simp only [List.length_range] at hi hj
    simp only [List.getElem_range]
    exact h i j hij hj
  have h1 := (ins_eq ((List.range n).map v) []).2 ⟨hn, fun _ _ => by simp⟩
  simpa [ksv] using h1
/-- The points. -/
def pt (s : Bool) (v : Nat → Nat) (i : Nat) : Zp s := zn s (v i)
/-- A product of differences. -/
def wr {s : Bool} (x : Nat → Zp s) (u : Nat) : Nat → Zp s
  | 0 => 1
  | k + 1 => if k = u then wr x u k else wr x u k * (x u - x k)
def Wd {s : Bool} (x : Nat → Zp s) (n u i : Nat) : Nat := if i < u then mq (wr x i n) else 0
def Wi {s : Bool} (x : Nat → Zp s) (n u k i : Nat) : Nat := if i = u then mq (wr x u k) else Wd x n u i
def wgt {s : Bool} (x : Nat → Zp s) (n i : Nat) : Zp s := binv (fun i => wr x i n) n i
def pairF (n : Nat) (i : Int) : List Ev := upE 0 (n : Int) (pairE false i)
section
variable {s : Bool} {x : Nat → Zp s} {n u k : Nat}
theorem wdz_zero : en vq (fun _ => 0) n = en vq (Wd x n 0) n := en_congr fun i _ => by unfold Wd; rw [if_neg (Nat.not_lt_zero i)]
theorem wdz_open : en vq (fun i => if i = u then rone s else Wd x n u i) n = en vq (Wi x n u 0) n := en_congr fun i _ => by
  unfold Wi
  by_cases h : i = u
  · rw [if_pos h, if_pos h]; exact mq_one.symm
  · rw [if_neg h, if_neg h]
theorem wi_at : Wi x n u k u = mq (wr x u k) := if_pos rfl
theorem wi_step (h : ¬ k = u) : en vq (fun i => if i = u then mq (wr x u k * (x u - x k)) else Wi x n u k i) n = en vq (Wi x n u (k + 1)) n := en_congr fun i _ => by
  unfold Wi
  by_cases hi : i = u
  · rw [if_pos hi, if_pos hi]; show _ = mq (if k = u then _ else _); rw [if_neg h]
  · rw [if_neg hi, if_neg hi, if_neg hi]
theorem wi_skip (h : k = u) : en vq (Wi x n u k) n = en vq (Wi x n u (k + 1)) n := en_congr fun i _ => by
  unfold Wi
  by_cases hi : i = u
  · rw [if_pos hi, if_pos hi]; show _ = mq (if k = u then _ else _); rw [if_pos h]
  · rw [if_neg hi, if_neg hi]
theorem wi_shut : en vq (Wi x n u n) n = en vq (Wd x n (u + 1)) n := en_congr fun i _ => by
  unfold Wi Wd
  by_cases hi : i = u
  · rw [if_pos hi, if_pos (by omega), hi]
  · rw [if_neg hi]
    by_cases l : i < u
    · rw [if_pos l, if_pos (by omega)]
    · rw [if_neg l, if_neg (by omega)]
theorem wdz_end : en vq (Wd x n n) n = en vq (fun i => mq (wr x i n)) n := en_congr fun i hi => by unfold Wd; rw [if_pos hi]
theorem pf_ne {E : List Ev} (h : ¬ k = u) : E ++ upE 0 (k : Int) (pairE false (u : Int)) ++ [(3, (u : Int), (k : Int))] = E ++ upE 0 ((k + 1 : Nat) : Int) (pairE false (u : Int)) := by
  have e := upE_succ (F := pairE false (u : Int)) (fr := 0) (x := (k : Int)) (by omega)
  have p : pairE false (u : Int) (k : Int) = [(3, (u : Int), (k : Int))] := by unfold pairE; rw [if_neg (by omega)]
  rw [p] at e
  rw [List.append_assoc, e]
  rfl
theorem pf_eq {E : List Ev} (h : k = u) : E ++ upE 0 (k : Int) (pairE false (u : Int)) = E ++ upE 0 ((k + 1 : Nat) : Int) (pairE false (u : Int)) := by
  have e := upE_succ (F := pairE false (u : Int)) (fr := 0) (x := (k : Int)) (by omega)
  have p : pairE false (u : Int) (k : Int) = [] := by unfold pairE; rw [if_pos ⟨by omega, rfl⟩]
  rw [p, List.append_nil] at e
  rw [e]
  rfl
theorem pf_row {E : List Ev} : E ++ upE 0 (u : Int) (pairF n) ++ upE 0 (n : Int) (pairE false (u : Int)) = E ++ upE 0 ((u + 1 : Nat) : Int) (pairF n) := by
  have e := upE_succ (F := pairF n) (fr := 0) (x := (u : Int)) (by omega)
  rw [List.append_assoc, show upE 0 (n : Int) (pairE false (u : Int)) = pairF n (u : Int) from rfl, e]
  rfl
theorem pairF_len {i : Int} : (pairF n i).length ≤ n := by
  have := upE_len (fr := 0) (to := (n : Int)) (F := pairE false i) (B := 1) (fun k => by unfold pairE; split <;> simp)
  unfold pairF; omega
theorem pairFs_len : (upE 0 (u : Int) (pairF n)).length ≤ u * n := by
  have := upE_len (fr := 0) (to := (u : Int)) (F := pairF n) (B := n) (fun k => pairF_len)
  simpa using this
theorem pairK_len : (upE 0 (k : Int) (pairE false (u : Int))).length ≤ k := by
  have := upE_len (fr := 0) (to := (k : Int)) (F := pairE false (u : Int)) (B := 1) (fun k => by unfold pairE; split <;> simp)
  omega
end
theorem wE_eq {n : Nat} (h : 0 < n) {E : List Ev} : E ++ upE 0 (n : Int) (pairF n) ++ batE n = E ++ weightsE (n : Int) := by
  unfold weightsE batE
  rw [if_neg (by omega)]
  simp only [List.append_assoc]
  rfl
theorem lcheck_c (n lc : Nat) (la : Option Addr) (v : Nat → Nat) (W : World) (HX : LstAt W 1 (.slice la n lc) n (en ic (fun i => ((v i : Nat) : Int)) n)) (hn : n ≤ 1000000) (hv : ∀ i, i < n → 1 ≤ v i ∧ v i ≤ 255) (hd : ∀ i k, i < k → k < n → v i ≠ v k) : Calls Tryz.prog 127 [.slice la n lc].toArray W fun e w => e = .returned (.int .i64 0) ∧ Below W.heap.size W w := by
 refine c_enter (args := [.slice la n lc]) Tryz.func127 rfl rfl rfl fun a hk => ?_
 have hs := Sat.start W [lst 1 (.slice la n lc) n (en ic (fun i => ((v i : Nat) : Int)) n)] (fun r hr => by rcases List.mem_singleton.1 hr with rfl; exact HX)
 refine wS (wR ?_)
 refine q_v hk (w_as rfl) fun a hk => ?_
 refine c_end (x_t (wS (wR ?_)))
 refine q_mkm (fun _ => True) hk hs rfl rfl fun b1 w a hk hs => ?_
 refine q_v hk (w_as rfl) fun a hk => ?_
 refine c_end (x_t (wS (wS (wR ?_))))
 refine q_v hk (w_mv rfl) fun a hk => ?_
 refine q_v hk (w_len rfl Tryz.underlying34) fun a hk => ?_
 refine q_v hk (w_mv rfl) fun a hk => ?_
 refine c_end (x_t ?_)
 refine wpIn_block ?_
 refine c_loop (α := Nat) (fun k a w => k ≤ n ∧ Kn [] 27 [(9, .int .i64 ((k : Nat) : Int)), (8, .int .i64 ((n : Nat) : Int)), (7, .slice la n lc), (3, .map (some b1)), (0, .slice la n lc)] a ∧ Sat no W [mapI (fun _ => True) b1 (ksv (fun i => ((v i : Nat) : Int)) k)] [lst 1 (.slice la n lc) n (en ic (fun i => ((v i : Nat) : Int)) n)] w) (fun k => n - k) 0 ?_ ?_
 · exact ⟨(by omega), hk.k rfl (hk.k rfl (hk.k rfl (hk.k rfl (hk.k rfl hk.nil)))), hs⟩
 rintro k a w ⟨hf0, hk, hs⟩
 refine wS (wR ?_)
 rcases Classical.em (((k : Nat) : Int) < ((n : Nat) : Int)) with hc2 | hc2
 ·
  have hvi := hv k (by omega)
  refine q_v hk (w_lt rfl rfl (decide_eq_true hc2)) fun a hk => ?_
  refine c_end (x_t (wS ?_))
  refine c_T hk rfl ?_
  refine (wpIn_skip (x_t ?_))
  refine wS ?_
  refine wpIn_block ?_
  refine wS (wR ?_)
  refine q_v hk (w_iaL (k := k) rfl rfl Tryz.underlying34 ty3 (hs.ri 0 rfl) (by omega) (by omega)) fun a hk => ?_
  refine q_v hk (w_ld1 rfl ty3 (lstq (k := k) (hs.ri 0 rfl) (by omega) (en_chunk ic_len (by omega)))) fun a hk => ?_
  refine q_v hk (w_as rfl) fun a hk => ?_
  refine c_end (x_t (wS (wS (wR ?_))))
  refine q_v hk (w_mv rfl) fun a hk => ?_
  refine q_v hk (w_lt rfl rfl (decide_eq_false (by omega))) fun a hk => ?_
  refine q_v hk (w_mv rfl) fun a hk => ?_
  refine q_v hk (w_mv rfl) fun a hk => ?_
  refine q_v hk (w_gt rfl rfl (decide_eq_false (by omega))) fun a hk => ?_
  refine q_v hk (w_pickF rfl rfl) fun a hk => ?_
  refine c_end (x_t ?_)
  refine c_F hk rfl ?_
  refine (wpIn_skip (x_t ?_))
  refine wR ?_
  refine q_v hk (w_mv rfl) fun a hk => ?_
  refine q_v hk (w_mv rfl) fun a hk => ?_
  refine q_mup hk hs rfl rfl rfl trivial Tryz.underlying204 Tryz.underlying3 rfl fun w hs => ?_
  refine (c_end (x_b (x_t ?_)))
  refine wR ?_
  refine q_v hk (w_add rfl rfl (wr64 (by omega) (by omega))) fun a hk => ?_
  refine q_v hk (w_mv rfl) fun a hk => ?_
  refine c_end (x_t ?_)
  have hs := hs.rw0 (congrArg (mapI (fun _ => True) b1) (ksv_succ (fun i => ((v i : Nat) : Int)) k))
  exact ⟨k + 1, ⟨(by omega), hk.k rfl (hk.k rfl (hk.k rfl (hk.k rfl (hk.k rfl hk.nil)))), hs⟩, by omega⟩
 ·
  have hkn : k = n := by omega
  subst hkn
  refine q_v hk (w_lt rfl rfl (decide_eq_false hc2)) fun a hk => ?_
  refine c_end (x_t (wS ?_))
  refine c_F hk rfl ?_
  refine (wpIn_exit (x_te (x_te (x_be ?_))))
  refine (x_t ?_)
  refine wS (wS (wR ?_))
  refine q_v hk (w_mv rfl) fun a hk => ?_
  refine q_v hk (w_lnm (hs.mi 0 rfl) rfl Tryz.underlying204) fun a hk => ?_
  refine q_v hk (w_mv rfl) fun a hk => ?_
  refine q_v hk (w_len rfl Tryz.underlying34) fun a hk => ?_
  refine q_v hk (w_lt rfl rfl (decide_eq_false (by rw [ksv_full (v := (fun i => ((v i : Nat) : Int))) (fun i j h1 h2 h3 => hd i j h1 (by omega) (Int.ofNat.inj h3))]; omega))) fun a hk => ?_
  refine c_end (x_t ?_)
  refine c_F hk rfl ?_
  refine (wpIn_skip (x_t ?_))
  refine wS (wR ?_)
  refine q_v hk (w_as rfl) fun a hk => ?_
  refine c_end (x_t ?_)
  refine (wpIn_ret ?_)
  refine c_ret1 hk rfl rfl ?_
  exact ⟨rfl, hs.toBelow⟩
end Go.Proofs.YtdnkkbmpefhbjaaGreatDoor
namespace Go.Proofs.YtdnkkbmpefhbjaaGreatDoor
set_option linter.all false
open Go Go.RowKit Alg
def ptf {s : Bool} (x : Nat → Zp s) (k i : Nat) : Nat := if i < k then mq (x i) else 0
theorem ptf_zero {s : Bool} {x : Nat → Zp s} {n : Nat} : en vq (fun _ => 0) n = en vq (ptf x 0) n := en_congr fun i _ => by unfold ptf; rw [if_neg (Nat.not_lt_zero i)]
theorem ptf_step {s : Bool} {x : Nat → Zp s} {k n : Nat} : en vq (fun i => if i = k then mq (x k) else ptf x k i) n = en vq (ptf x (k + 1)) n := en_congr fun i _ => by
  unfold ptf
  by_cases h : i = k
  · subst h; rw [if_pos rfl, if_pos (Nat.lt_succ_self _)]
  · rw [if_neg h]
    by_cases l : i < k
    · rw [if_pos l, if_pos (by omega)]
    · rw [if_neg l, if_neg (by omega)]
theorem ptf_end {s : Bool} {x : Nat → Zp s} {n : Nat} : en vq (ptf x n) n = en vq (fun i => mq (x i)) n := en_congr fun i hi => by unfold ptf; rw [if_pos hi]
theorem lt255 {k : Nat} (h : k ≤ 255) : k < R4 := Nat.lt_of_le_of_lt h (by decide)
theorem points_m {F0 : Nat → Prop} {W : World} {M R : List Res} (s : Bool) (n lc : Nat) (la : Option Addr) (v : Nat → Nat) (w0 : World) (hs : Sat F0 W M ((lst 1 (.slice la n lc) n (en ic (fun i => ((v i : Nat) : Int)) n)) :: R) w0) (hn : n ≤ 1000000) (hv : ∀ i, i < n → 1 ≤ v i ∧ v i ≤ 255) : Calls Tryz.prog 117 [fieldV s, .slice la n lc].toArray w0 fun e w => ∃ b, e = .returned (.slice (some ⟨b, 0, none⟩) n n) ∧ Sat F0 W (blk b (en vq (fun i => mq (pt s v i)) n) 56 :: M) R w := by
 refine c_enter (args := [fieldV s, .slice la n lc]) Tryz.func117 rfl rfl rfl fun a hk => ?_
 refine wS (wR ?_)
 refine q_box (vs := fieldL s) hk hs rfl rfl rfl rfl fun b1 w a hk hs => ?_
 refine q_v hk (w_as rfl) fun a hk => ?_
 refine c_end (x_t (wS (wR ?_)))
 refine q_v hk (w_mv rfl) fun a hk => ?_
 refine q_v hk (w_len rfl Tryz.underlying34) fun a hk => ?_
 refine q_mks (k := n) (cs := vq 0) hk hs rfl rfl Tryz.underlying51 ty56 zr56 (by kernel_rfl) rfl rfl rfl rfl (by omega) (by omega) rfl rfl fun b2 w a hk hs => ?_
 have hs := hs.rw0 (show _ = blk b2 (en vq (fun _ => 0) n) 56 from rfl)
 refine q_v hk (w_as rfl) fun a hk => ?_
 refine c_end (x_t (wS (wS (wR ?_))))
 refine q_v hk (w_mv rfl) fun a hk => ?_
 refine q_v hk (w_len rfl Tryz.underlying34) fun a hk => ?_
 refine q_v hk (w_mv rfl) fun a hk => ?_
 refine c_end (x_t ?_)
 refine wpIn_block ?_
 have hs := hs.rw0 (congrArg (fun q => blk b2 q 56) (ptf_zero (x := pt s v)))
 refine c_loop (α := Nat) (fun k a w => k ≤ n ∧ Kn [] 28 [(13, .int .i64 ((k : Nat) : Int)), (12, .int .i64 ((n : Nat) : Int)), (11, .slice la n lc), (5, .slice (some ⟨b2, 0, none⟩) n n), (4, .slice none 0 0), (2, .pointer (some ⟨b1, 0, none⟩))] a ∧ Sat F0 W ((blk b2 (en vq (fun i => ptf (pt s v) k i) n) 56) :: (blk b1 (fieldL s) 120) :: M) ((lst 1 (.slice la n lc) n (en ic (fun i => ((v i : Nat) : Int)) n)) :: R) w) (fun k => n - k) 0 ?_ ?_
 · exact ⟨(by omega), hk.k rfl (hk.k rfl (hk.k rfl (hk.k rfl (hk.k rfl (hk.k rfl hk.nil))))), hs⟩
 rintro k a w ⟨hf0, hk, hs⟩
 refine wS (wR ?_)
 rcases Classical.em (((k : Nat) : Int) < ((n : Nat) : Int)) with hc3 | hc3
 ·
  have hvk := hv k (by omega)
  refine q_v hk (w_lt rfl rfl (decide_eq_true hc3)) fun a hk => ?_
  refine c_end (x_t (wS ?_))
  refine c_T hk rfl ?_
  refine (wpIn_skip (x_t ?_))
  refine wS ?_
  refine wpIn_block ?_
  refine wS (wR ?_)
  refine q_v hk (w_mv rfl) fun a hk => ?_
  refine q_v hk (w_iaL (k := k) rfl rfl Tryz.underlying34 ty3 (hs.ri 0 rfl) (by omega) (by omega)) fun a hk => ?_
  refine q_v hk (w_ld1 rfl ty3 (lstq (k := k) (hs.ri 0 rfl) (by omega) (en_chunk ic_len (by omega)))) fun a hk => ?_
  refine q_v hk (w_as rfl) fun a hk => ?_
  refine q_v hk (w_as rfl) fun a hk => ?_
  refine c_end (x_t (wR ?_))
  refine q_v hk (w_mv rfl) fun a hk => ?_
  refine q_v hk (w_mv rfl) fun a hk => ?_
  refine q_v hk (w_ldA rfl ty120 (.blk (n := 14) (hs.mi 1 rfl) rfl) rfl) fun a hk => ?_
  refine q_v hk (w_mv rfl) fun a hk => ?_
  refine q_v hk (w_conv rfl Tryz.underlying3 Tryz.underlying46 (wru64 (by omega) (by omega))) fun a hk => ?_
  refine q_v hk (w_bldv1 (k := v k) rfl (by omega) (by unfold Go.Proofs.YtdnkkbmpefhbjaaGreatDoor.W; omega) Tryz.underlying47 ty46 zr47) fun a hk => ?_
  refine q_call (caps := []) hk rfl rfl Tryz.func88 fo88 rfl rfl (zto_c (s := s) _ (v k) (lt255 hvk.2)) ?_
  rintro _ w ⟨rfl, hb⟩
  have hs := hs.below hb
  refine ⟨_, rfl, fun a hk => ?_⟩
  refine q_v hk (w_iaL (k := k) rfl rfl Tryz.underlying51 ty56 (blk_lst (hs.mi 0 rfl) (en_len vq_len) (Nat.le_refl _)) (by omega) (by omega)) fun a hk => ?_
  refine q_stoE (c := vq) (xx := (mq (pt s v k))) (k := k) hk hs rfl rfl rfl ty56 rfl vq_len rfl (by omega) rfl fun w hs => ?_
  refine (c_end (x_b (x_t ?_)))
  refine wR ?_
  refine q_v hk (w_add rfl rfl (wr64 (by omega) (by omega))) fun a hk => ?_
  refine q_v hk (w_mv rfl) fun a hk => ?_
  refine c_end (x_t ?_)
  have hs := hs.rw0 (congrArg (fun q => blk b2 q 56) (ptf_step (x := pt s v)))
  exact ⟨k + 1, ⟨(by omega), hk.k rfl (hk.k rfl (hk.k rfl (hk.k rfl (hk.k rfl (hk.k rfl hk.nil))))), hs⟩, by omega⟩
 ·
  refine q_v hk (w_lt rfl rfl (decide_eq_false hc3)) fun a hk => ?_
  refine c_end (x_t (wS ?_))
  refine c_F hk rfl ?_
  refine (wpIn_exit (x_te (x_te (x_be ?_))))
  refine (x_t ?_)
  refine wS (wR ?_)
  refine q_v hk (w_mv rfl) fun a hk => ?_
  refine q_v hk (w_as rfl) fun a hk => ?_
  refine c_end (x_t ?_)
  refine (wpIn_ret ?_)
  refine c_ret1 hk rfl rfl ?_
  have hs := hs.up1
  have hs := hs.drop
  have hs := hs.toR (R' := R) (fun r hr => .of (by simp [hr]))
  have hkn : k = n := by omega
  subst hkn
  rw [ptf_end] at hs
  exact ⟨_, rfl, hs⟩
theorem weights_m0 {F0 : Nat → Prop} {W : World} {M R : List Res} (s : Bool) (n lc : Nat) (la : Option Addr) (v : Nat → Nat) (t : Option Nat) (evs : List Ev) (r : Res) (w0 : World) (hs : Sat F0 W (r :: M) R w0) (hT : TapeIs t evs r) (hL : HasR (lst 1 (.slice la n lc) n (en ic (fun i => ((v i : Nat) : Int)) n)) R) (h0 : 0 < n) (hn : n ≤ 255) (hv : ∀ i, i < n → 1 ≤ v i ∧ v i ≤ 255) (hd : ∀ i k, i < k → k < n → v i ≠ v k) (he : evs.length ≤ 100000000) : Calls Tryz.prog 116 [tval t, fieldV s, .slice la n lc].toArray w0 fun e w => ∃ b r, e = .returned (.tuple #[.slice (some ⟨b, 0, none⟩) n n, .int .i64 0]) ∧ TapeIs t (evs ++ weightsE (n : Int)) r ∧ Sat F0 W (r :: blk b (en vq (fun i => mq (wgt (pt s v) n i)) n) 56 :: M) R w := by
 refine c_enter (args := [tval t, fieldV s, .slice la n lc]) Tryz.func116 rfl rfl rfl fun a hk => ?_
 refine wS (wR ?_)
 refine q_box (vs := fieldL s) hk hs rfl rfl rfl rfl fun b1 w a hk hs => ?_
 refine q_v hk (w_as rfl) fun a hk => ?_
 refine q_v hk (w_as rfl) fun a hk => ?_
 refine c_end (x_t (wS (wS (wR ?_))))
 refine q_v hk (w_mv rfl) fun a hk => ?_
 refine q_call (caps := []) hk rfl rfl Tryz.func127 fo127 rfl rfl (lcheck_c n lc la v _ ((hL).at_ hs) (by omega) hv hd) ?_
 rintro _ w ⟨rfl, hb⟩
 have hs := hs.below hb
 refine ⟨_, rfl, fun a hk => ?_⟩
 refine q_v hk (w_as rfl) fun a hk => ?_
 refine c_end (x_t (wS (wR ?_)))
 refine q_v hk (w_mv rfl) fun a hk => ?_
 refine q_v hk (w_ne rfl rfl (decide_eq_false (by decide))) fun a hk => ?_
 refine c_end (x_t ?_)
 refine c_F hk rfl ?_
 refine (wpIn_skip (x_t ?_))
 refine wS (wR ?_)
 refine q_v hk (w_ldA rfl ty120 (.blk (n := 14) (hs.mi 0 rfl) rfl) rfl) fun a hk => ?_
 refine q_v hk (w_mv rfl) fun a hk => ?_
 refine q_call (caps := []) hk rfl rfl Tryz.func117 fo117 rfl rfl (points_m s n lc la v _ (hs.hasR hL) (by omega) hv) ?_
 rintro _ w ⟨b2, rfl, hs⟩
 have hs := hs.subR (R' := R) (by simp)
 refine ⟨_, rfl, fun a hk => ?_⟩
 refine q_v hk (w_as rfl) fun a hk => ?_
 have hs := hs.frz (r := lst 4 (.slice (some ⟨b2, 0, none⟩) n n) n (en vq (fun i => mq (pt s v i)) n)) (blk_lst (hs.mi 0 rfl) (en_len vq_len) (Nat.le_refl _)) (fun _ h => (Option.some.inj h.2).symm)
 refine c_end (x_t (wS (wR ?_)))
 refine q_v hk (w_mv rfl) fun a hk => ?_
 refine q_v hk (w_len rfl Tryz.underlying51) fun a hk => ?_
 refine q_mks (k := n) (cs := vq 0) hk hs rfl rfl Tryz.underlying51 ty56 zr56 (by kernel_rfl) rfl rfl rfl rfl (by omega) (by omega) rfl rfl fun b3 w a hk hs => ?_
 have hs := hs.rw0 (show _ = blk b3 (en vq (fun _ => 0) n) 56 from rfl)
 refine q_v hk (w_as rfl) fun a hk => ?_
 refine c_end (x_t (wS (wS (wR ?_))))
 refine q_v hk (w_mv rfl) fun a hk => ?_
 refine q_v hk (w_len rfl Tryz.underlying51) fun a hk => ?_
 refine q_v hk (w_mv rfl) fun a hk => ?_
 refine c_end (x_t ?_)
 refine wpIn_block ?_
 have hs := hs.rw0 (congrArg (fun q => blk b3 q 56) (wdz_zero (x := pt s v)))
 refine c_loop (α := Nat) (fun u a w => ∃ (r : Res), u ≤ n ∧ TapeIs t (evs ++ upE 0 ((u : Nat) : Int) (pairF n)) r ∧ Kn [] 71 [(26, .int .i64 ((u : Nat) : Int)), (25, .int .i64 ((n : Nat) : Int)), (10, .slice (some ⟨b3, 0, none⟩) n n), (9, .slice (some ⟨b2, 0, none⟩) n n), (7, .int .i64 0), (6, .slice none 0 0), (4, .pointer (some ⟨b1, 0, none⟩)), (0, tval t)] a ∧ Sat F0 W ((blk b3 (en vq (fun i => Wd (pt s v) n u i) n) 56) :: (blk b1 (fieldL s) 120) :: r :: M) ((lst 4 (.slice (some ⟨b2, 0, none⟩) n n) n (en vq (fun i => mq (pt s v i)) n)) :: R) w) (fun u => n - u) 0 ?_ ?_
 · exact ⟨_, (by omega), (by rw [upE_nil (by omega), List.append_nil]; exact hT), hk.k rfl (hk.k rfl (hk.k rfl (hk.k rfl (hk.k rfl (hk.k rfl (hk.k rfl (hk.k rfl hk.nil))))))), hs⟩
 rintro u a w ⟨r, hf0, hf1, hk, hs⟩
 have hT := hf1
 refine wS (wR ?_)
 rcases Classical.em (((u : Nat) : Int) < ((n : Nat) : Int)) with hc4 | hc4
 ·
  refine q_v hk (w_lt rfl rfl (decide_eq_true hc4)) fun a hk => ?_
  refine c_end (x_t (wS ?_))
  refine c_T hk rfl ?_
  refine (wpIn_skip (x_t ?_))
  refine wS ?_
  refine wpIn_block ?_
  refine wS (wR ?_)
  refine q_v hk (w_mv rfl) fun a hk => ?_
  refine q_v hk (w_as rfl) fun a hk => ?_
  refine c_end (x_t (wS (wR ?_)))
  refine q_v hk (w_mv rfl) fun a hk => ?_
  refine q_v hk (w_mv rfl) fun a hk => ?_
  refine q_v hk (w_fa rfl fq120_3 ty56) fun a hk => ?_
  refine q_v hk (w_ldv (z := rone s) rfl ty56 (.blk (n := 4) (hs.mi 1 rfl) rfl)) fun a hk => ?_
  refine q_v hk (w_iaL (k := u) rfl rfl Tryz.underlying51 ty56 (blk_lst (hs.mi 0 rfl) (en_len vq_len) (Nat.le_refl _)) (by omega) (by omega)) fun a hk => ?_
  refine q_stoE (c := vq) (xx := (rone s)) (k := u) hk hs rfl rfl rfl ty56 rfl vq_len rfl (by omega) rfl fun w hs => ?_
  refine c_end (x_t (wS (wR ?_)))
  refine q_v hk (w_mv rfl) fun a hk => ?_
  refine q_v hk (w_len rfl Tryz.underlying51) fun a hk => ?_
  refine q_v hk (w_mv rfl) fun a hk => ?_
  refine c_end (x_t ?_)
  refine wpIn_block ?_
  have hs := hs.rw0 (congrArg (fun q => blk b3 q 56) (wdz_open (x := pt s v)))
  refine c_loop (α := Nat) (fun k a w => ∃ (r2 : Res), k ≤ n ∧ TapeIs t (evs ++ upE 0 ((u : Nat) : Int) (pairF n) ++ upE 0 ((k : Nat) : Int) (pairE false ((u : Nat) : Int))) r2 ∧ Kn [] 71 [(36, .int .i64 ((k : Nat) : Int)), (35, .int .i64 ((n : Nat) : Int)), (34, .slice (some ⟨b2, 0, none⟩) n n), (32, vec (rone s)), (31, .pointer (some ⟨b1, 6, none⟩)), (30, .int .i64 ((u : Nat) : Int)), (29, .slice (some ⟨b3, 0, none⟩) n n), (11, .int .i64 ((u : Nat) : Int)), (28, .int .i64 ((u : Nat) : Int)), (27, .bool true), (26, .int .i64 ((u : Nat) : Int)), (25, .int .i64 ((n : Nat) : Int)), (10, .slice (some ⟨b3, 0, none⟩) n n), (9, .slice (some ⟨b2, 0, none⟩) n n), (7, .int .i64 0), (6, .slice none 0 0), (4, .pointer (some ⟨b1, 0, none⟩)), (0, tval t)] a ∧ Sat F0 W ((blk b3 (en vq (fun i => Wi (pt s v) n u k i) n) 56) :: (blk b1 (fieldL s) 120) :: r2 :: M) ((lst 4 (.slice (some ⟨b2, 0, none⟩) n n) n (en vq (fun i => mq (pt s v i)) n)) :: R) w) (fun k => n - k) 0 ?_ ?_
  · exact ⟨_, (by omega), (by rw [upE_nil (a := ((0 : Nat) : Int)) (by omega), List.append_nil]; exact hT), hk.k rfl (hk.k rfl (hk.k rfl (hk.k rfl (hk.k rfl (hk.k rfl (hk.k rfl (hk.k rfl (hk.k rfl (hk.k rfl (hk.k rfl (hk.k rfl (hk.k rfl (hk.k rfl (hk.k rfl (hk.k rfl (hk.k rfl (hk.k rfl hk.nil))))))))))))))))), hs⟩
  rintro k a w ⟨r2, hf0, hf1, hk, hs⟩
  have hT := hf1
  have hlu := pairFs_len (n := n) (u := u)
  have hlk := pairK_len (k := k) (u := u)
  have hun : u * n ≤ 1000 * 1000 := Nat.mul_le_mul (by omega) (by omega)
  refine wS (wR ?_)
  rcases Classical.em (((k : Nat) : Int) < ((n : Nat) : Int)) with hc5 | hc5
  ·
   refine q_v hk (w_lt rfl rfl (decide_eq_true hc5)) fun a hk => ?_
   refine c_end (x_t (wS ?_))
   refine c_T hk rfl ?_
   refine (wpIn_skip (x_t ?_))
   refine wS ?_
   refine wpIn_block ?_
   refine wS (wR ?_)
   refine q_v hk (w_mv rfl) fun a hk => ?_
   refine q_v hk (w_as rfl) fun a hk => ?_
   refine c_end (x_t (wS (wR ?_)))
   refine q_v hk (w_mv rfl) fun a hk => ?_
   refine q_v hk (w_mv rfl) fun a hk => ?_
   rcases Classical.em (((k : Nat) : Int) ≠ ((u : Nat) : Int)) with hc6 | hc6
   ·
    refine q_v hk (w_ne rfl rfl (decide_eq_true hc6)) fun a hk => ?_
    refine c_end (x_t ?_)
    refine c_T hk rfl ?_
    refine wS (wR ?_)
    refine q_v hk (w_mv rfl) fun a hk => ?_
    refine q_v hk (w_mv rfl) fun a hk => ?_
    refine q_v hk (w_mv rfl) fun a hk => ?_
    have hs := hs.up2
    refine q_call (caps := []) hk rfl rfl Tryz.func61 fo61 rfl rfl (note_m t 3 ((u : Nat) : Int) ((k : Nat) : Int) (evs ++ upE 0 ((u : Nat) : Int) (pairF n) ++ upE 0 ((k : Nat) : Int) (pairE false ((u : Nat) : Int))) _ _ hT hs (by simp only [List.length_append]; omega)) ?_
    rintro _ w ⟨v7, r8, rfl, ht9, hs⟩
    have hT := ht9
    refine ⟨_, rfl, fun a hk => ?_⟩
    refine c_end (x_t ?_)
    have hL := okL.cons (hs.mi 2 rfl) (okL.cons (hs.ri 0 rfl) okL.nil)
    refine d_begin _ 20 (by kernel_rfl) rfl hs hL fun w hs hL => ?_
    refine d_join (n2 := 3) 131071 (fun a w => Kn [] 71 [(62, vec (mq ((pt s v u) - (pt s v k)))), (52, vec (mq (wr (pt s v) u k))), (51, .pointer (some ((adq (some ⟨b3, 0, none⟩)).add (u * 4)))), (61, vec (mq (pt s v k))), (60, .pointer (some ((adq (some ⟨b2, 0, none⟩)).add (k * 4)))), (59, .int .i64 ((k : Nat) : Int)), (58, .slice (some ⟨b2, 0, none⟩) n n), (57, vec (mq (pt s v u))), (56, .pointer (some ((adq (some ⟨b2, 0, none⟩)).add (u * 4)))), (55, .int .i64 ((u : Nat) : Int)), (54, .slice (some ⟨b2, 0, none⟩) n n), (53, fieldV s), (50, .int .i64 ((u : Nat) : Int)), (49, .slice (some ⟨b3, 0, none⟩) n n), (48, fieldV s), (47, .int .i64 ((u : Nat) : Int)), (46, .slice (some ⟨b3, 0, none⟩) n n), (45, v7), (44, .int .i64 ((k : Nat) : Int)), (43, .int .i64 ((u : Nat) : Int)), (42, tval t), (41, .bool true), (40, .int .i64 ((u : Nat) : Int)), (39, .int .i64 ((k : Nat) : Int)), (12, .int .i64 ((k : Nat) : Int)), (38, .int .i64 ((k : Nat) : Int)), (37, .bool true), (36, .int .i64 ((k : Nat) : Int)), (35, .int .i64 ((n : Nat) : Int)), (34, .slice (some ⟨b2, 0, none⟩) n n), (32, vec (rone s)), (31, .pointer (some ⟨b1, 6, none⟩)), (30, .int .i64 ((u : Nat) : Int)), (29, .slice (some ⟨b3, 0, none⟩) n n), (11, .int .i64 ((u : Nat) : Int)), (28, .int .i64 ((u : Nat) : Int)), (27, .bool true), (26, .int .i64 ((u : Nat) : Int)), (25, .int .i64 ((n : Nat) : Int)), (10, .slice (some ⟨b3, 0, none⟩) n n), (9, .slice (some ⟨b2, 0, none⟩) n n), (7, .int .i64 0), (6, .slice none 0 0), (4, .pointer (some ⟨b1, 0, none⟩)), (0, tval t)] a ∧ Sat F0 W (r8 :: (blk b3 (en vq (fun i => Wi (pt s v) n u k i) n) 56) :: (blk b1 (fieldL s) 120) :: M) ((lst 4 (.slice (some ⟨b2, 0, none⟩) n n) n (en vq (fun i => mq (pt s v i)) n)) :: R) w ∧ okL [blk b1 (fieldL s) 120, lst 4 (.slice (some ⟨b2, 0, none⟩) n n) n (en vq (fun i => mq (pt s v i)) n)] w) ?_ ?_
    ·
     intro hJ131071
     refine d_join (n2 := 4) 131007 (fun a w => Kn [] 71 [(62, vec (mq ((pt s v u) - (pt s v k)))), (51, .pointer (some ((adq (some ⟨b3, 0, none⟩)).add (u * 4)))), (61, vec (mq (pt s v k))), (60, .pointer (some ((adq (some ⟨b2, 0, none⟩)).add (k * 4)))), (59, .int .i64 ((k : Nat) : Int)), (58, .slice (some ⟨b2, 0, none⟩) n n), (57, vec (mq (pt s v u))), (56, .pointer (some ((adq (some ⟨b2, 0, none⟩)).add (u * 4)))), (55, .int .i64 ((u : Nat) : Int)), (54, .slice (some ⟨b2, 0, none⟩) n n), (53, fieldV s), (50, .int .i64 ((u : Nat) : Int)), (49, .slice (some ⟨b3, 0, none⟩) n n), (48, fieldV s), (47, .int .i64 ((u : Nat) : Int)), (46, .slice (some ⟨b3, 0, none⟩) n n), (45, v7), (44, .int .i64 ((k : Nat) : Int)), (43, .int .i64 ((u : Nat) : Int)), (42, tval t), (41, .bool true), (40, .int .i64 ((u : Nat) : Int)), (39, .int .i64 ((k : Nat) : Int)), (12, .int .i64 ((k : Nat) : Int)), (38, .int .i64 ((k : Nat) : Int)), (37, .bool true), (36, .int .i64 ((k : Nat) : Int)), (35, .int .i64 ((n : Nat) : Int)), (34, .slice (some ⟨b2, 0, none⟩) n n), (32, vec (rone s)), (31, .pointer (some ⟨b1, 6, none⟩)), (30, .int .i64 ((u : Nat) : Int)), (29, .slice (some ⟨b3, 0, none⟩) n n), (11, .int .i64 ((u : Nat) : Int)), (28, .int .i64 ((u : Nat) : Int)), (27, .bool true), (26, .int .i64 ((u : Nat) : Int)), (25, .int .i64 ((n : Nat) : Int)), (10, .slice (some ⟨b3, 0, none⟩) n n), (9, .slice (some ⟨b2, 0, none⟩) n n), (7, .int .i64 0), (6, .slice none 0 0), (4, .pointer (some ⟨b1, 0, none⟩)), (0, tval t)] a ∧ Sat F0 W (r8 :: (blk b3 (en vq (fun i => Wi (pt s v) n u k i) n) 56) :: (blk b1 (fieldL s) 120) :: M) ((lst 4 (.slice (some ⟨b2, 0, none⟩) n n) n (en vq (fun i => mq (pt s v i)) n)) :: R) w ∧ okL [blk b1 (fieldL s) 120, lst 4 (.slice (some ⟨b2, 0, none⟩) n n) n (en vq (fun i => mq (pt s v i)) n)] w) ?_ ?_
     ·
      intro hJ131007
      refine d_w 0 1 hk hL rfl (fun w hL => w_mv rfl) fun a hk => ?_
      refine d_w 1 3 hk hL rfl (fun w hL => w_mv rfl) fun a hk => ?_
      refine d_w 2 7 hk hL rfl (fun w hL => w_ldA rfl ty120 (.blk (n := 14) (hL.at 0 rfl) rfl) rfl) fun a hk => ?_
      refine d_w 3 15 hk hL rfl (fun w hL => w_mv rfl) fun a hk => ?_
      refine d_w 4 31 hk hL rfl (fun w hL => w_mv rfl) fun a hk => ?_
      refine d_w 7 159 hk hL rfl (fun w hL => w_ldA rfl ty120 (.blk (n := 14) (hL.at 0 rfl) rfl) rfl) fun a hk => ?_
      refine d_w 8 415 hk hL rfl (fun w hL => w_mv rfl) fun a hk => ?_
      refine d_w 9 927 hk hL rfl (fun w hL => w_mv rfl) fun a hk => ?_
      refine d_w 10 1951 hk hL rfl (fun w hL => w_iaL (k := u) rfl rfl Tryz.underlying51 ty56 (hL.at 1 rfl) (by omega) (by omega)) fun a hk => ?_
      refine d_w 11 3999 hk hL rfl (fun w hL => w_ldv (z := mq (pt s v u)) rfl ty56 (lstq (k := u) (hL.at 1 rfl) (by omega) (en_chunk vq_len (by omega)))) fun a hk => ?_
      refine d_w 12 8095 hk hL rfl (fun w hL => w_mv rfl) fun a hk => ?_
      refine d_w 13 16287 hk hL rfl (fun w hL => w_mv rfl) fun a hk => ?_
      refine d_w 14 32671 hk hL rfl (fun w hL => w_iaL (k := k) rfl rfl Tryz.underlying51 ty56 (hL.at 1 rfl) (by omega) (by omega)) fun a hk => ?_
      refine d_w 15 65439 hk hL rfl (fun w hL => w_ldv (z := mq (pt s v k)) rfl ty56 (lstq (k := k) (hL.at 1 rfl) (by omega) (en_chunk vq_len (by omega)))) fun a hk => ?_
      refine d_2 5 16 65471 130975 rfl rfl (by kernel_rfl) (fun K hK => ?_) (fun K hK => ?_)
      ·
       refine q_v hk (w_iaL (k := u) rfl rfl Tryz.underlying51 ty56 (blk_lst (hs.mi 1 rfl) (en_len vq_len) (Nat.le_refl _)) (by omega) (by omega)) fun a hk => ?_
       have hL := okL.cons (hs.mi 2 rfl) (okL.cons (hs.ri 0 rfl) okL.nil)
       refine c_end (x_t (hK _ _ hL ?_))
       clear hK K
       refine d_2 6 16 65535 131007 rfl rfl (by kernel_rfl) (fun K hK => ?_) (fun K hK => ?_)
       ·
        refine q_v hk (w_ldv (z := mq (wr (pt s v) u k)) rfl ty56 (vq_eq wi_at (lstq (k := u) (blk_lst (hs.mi 1 rfl) (en_len vq_len) (Nat.le_refl _)) (by omega) (en_chunk vq_len (by omega))))) fun a hk => ?_
        have hL := okL.cons (hs.mi 2 rfl) (okL.cons (hs.ri 0 rfl) okL.nil)
        refine c_end (x_t (hK _ _ hL ?_))
        clear hK K
        refine d_1 16 131071 rfl (by kernel_rfl) fun K hK => ?_
        refine q_call (caps := []) hk rfl rfl Tryz.func143 fo143 rfl rfl (zsub_c (x := (pt s v u)) (y := (pt s v k)) _ rfl rfl) ?_
        rintro _ w ⟨rfl, hb⟩
        have hs := hs.below hb
        refine ⟨_, rfl, fun a hk => ?_⟩
        have hL := okL.cons (hs.mi 2 rfl) (okL.cons (hs.ri 0 rfl) okL.nil)
        refine c_end (x_t (hK _ _ hL ?_))
        clear hK K
        have hL := okL.cons (hs.mi 2 rfl) (okL.cons (hs.ri 0 rfl) okL.nil)
        exact hJ131071 _ _ ⟨hk.k rfl (hk.k rfl (hk.k rfl (hk.k rfl (hk.k rfl (hk.k rfl (hk.k rfl (hk.k rfl (hk.k rfl (hk.k rfl (hk.k rfl (hk.k rfl (hk.k rfl (hk.k rfl (hk.k rfl (hk.k rfl (hk.k rfl (hk.k rfl (hk.k rfl (hk.k rfl (hk.k rfl (hk.k rfl (hk.k rfl (hk.k rfl (hk.k rfl (hk.k rfl (hk.k rfl (hk.k rfl (hk.k rfl (hk.k rfl (hk.k rfl (hk.k rfl (hk.k rfl (hk.k rfl (hk.k rfl (hk.k rfl (hk.k rfl (hk.k rfl (hk.k rfl (hk.k rfl (hk.k rfl (hk.k rfl (hk.k rfl (hk.k rfl (hk.k rfl hk.nil)))))))))))))))))))))))))))))))))))))))))))), hs, hL⟩
       ·
        refine q_call (caps := []) hk rfl rfl Tryz.func143 fo143 rfl rfl (zsub_c (x := (pt s v u)) (y := (pt s v k)) _ rfl rfl) ?_
        rintro _ w ⟨rfl, hb⟩
        have hs := hs.below hb
        refine ⟨_, rfl, fun a hk => ?_⟩
        have hL := okL.cons (hs.mi 2 rfl) (okL.cons (hs.ri 0 rfl) okL.nil)
        refine c_end (x_t (hK _ _ hL ?_))
        clear hK K
        have hL := okL.cons (hs.mi 2 rfl) (okL.cons (hs.ri 0 rfl) okL.nil)
        exact hJ131007 _ _ ⟨hk.k rfl (hk.k rfl (hk.k rfl (hk.k rfl (hk.k rfl (hk.k rfl (hk.k rfl (hk.k rfl (hk.k rfl (hk.k rfl (hk.k rfl (hk.k rfl (hk.k rfl (hk.k rfl (hk.k rfl (hk.k rfl (hk.k rfl (hk.k rfl (hk.k rfl (hk.k rfl (hk.k rfl (hk.k rfl (hk.k rfl (hk.k rfl (hk.k rfl (hk.k rfl (hk.k rfl (hk.k rfl (hk.k rfl (hk.k rfl (hk.k rfl (hk.k rfl (hk.k rfl (hk.k rfl (hk.k rfl (hk.k rfl (hk.k rfl (hk.k rfl (hk.k rfl (hk.k rfl (hk.k rfl (hk.k rfl (hk.k rfl (hk.k rfl hk.nil))))))))))))))))))))))))))))))))))))))))))), hs, hL⟩
      ·
       refine q_call (caps := []) hk rfl rfl Tryz.func143 fo143 rfl rfl (zsub_c (x := (pt s v u)) (y := (pt s v k)) _ rfl rfl) ?_
       rintro _ w ⟨rfl, hb⟩
       have hs := hs.below hb
       refine ⟨_, rfl, fun a hk => ?_⟩
       have hL := okL.cons (hs.mi 2 rfl) (okL.cons (hs.ri 0 rfl) okL.nil)
       refine c_end (x_t (hK _ _ hL ?_))
       clear hK K
       refine d_1 5 131007 rfl (by kernel_rfl) fun K hK => ?_
       refine q_v hk (w_iaL (k := u) rfl rfl Tryz.underlying51 ty56 (blk_lst (hs.mi 1 rfl) (en_len vq_len) (Nat.le_refl _)) (by omega) (by omega)) fun a hk => ?_
       have hL := okL.cons (hs.mi 2 rfl) (okL.cons (hs.ri 0 rfl) okL.nil)
       refine c_end (x_t (hK _ _ hL ?_))
       clear hK K
       have hL := okL.cons (hs.mi 2 rfl) (okL.cons (hs.ri 0 rfl) okL.nil)
       exact hJ131007 _ _ ⟨hk.k rfl (hk.k rfl (hk.k rfl (hk.k rfl (hk.k rfl (hk.k rfl (hk.k rfl (hk.k rfl (hk.k rfl (hk.k rfl (hk.k rfl (hk.k rfl (hk.k rfl (hk.k rfl (hk.k rfl (hk.k rfl (hk.k rfl (hk.k rfl (hk.k rfl (hk.k rfl (hk.k rfl (hk.k rfl (hk.k rfl (hk.k rfl (hk.k rfl (hk.k rfl (hk.k rfl (hk.k rfl (hk.k rfl (hk.k rfl (hk.k rfl (hk.k rfl (hk.k rfl (hk.k rfl (hk.k rfl (hk.k rfl (hk.k rfl (hk.k rfl (hk.k rfl (hk.k rfl (hk.k rfl (hk.k rfl (hk.k rfl (hk.k rfl hk.nil))))))))))))))))))))))))))))))))))))))))))), hs, hL⟩
     ·
      rintro a w ⟨hk, hs, hL⟩
      refine d_1 6 131071 rfl (by kernel_rfl) fun K hK => ?_
      refine q_v hk (w_ldv (z := mq (wr (pt s v) u k)) rfl ty56 (vq_eq wi_at (lstq (k := u) (blk_lst (hs.mi 1 rfl) (en_len vq_len) (Nat.le_refl _)) (by omega) (en_chunk vq_len (by omega))))) fun a hk => ?_
      have hL := okL.cons (hs.mi 2 rfl) (okL.cons (hs.ri 0 rfl) okL.nil)
      refine c_end (x_t (hK _ _ hL ?_))
      clear hK K
      have hL := okL.cons (hs.mi 2 rfl) (okL.cons (hs.ri 0 rfl) okL.nil)
      exact hJ131071 _ _ ⟨hk.k rfl (hk.k rfl (hk.k rfl (hk.k rfl (hk.k rfl (hk.k rfl (hk.k rfl (hk.k rfl (hk.k rfl (hk.k rfl (hk.k rfl (hk.k rfl (hk.k rfl (hk.k rfl (hk.k rfl (hk.k rfl (hk.k rfl (hk.k rfl (hk.k rfl (hk.k rfl (hk.k rfl (hk.k rfl (hk.k rfl (hk.k rfl (hk.k rfl (hk.k rfl (hk.k rfl (hk.k rfl (hk.k rfl (hk.k rfl (hk.k rfl (hk.k rfl (hk.k rfl (hk.k rfl (hk.k rfl (hk.k rfl (hk.k rfl (hk.k rfl (hk.k rfl (hk.k rfl (hk.k rfl (hk.k rfl (hk.k rfl (hk.k rfl (hk.k rfl hk.nil)))))))))))))))))))))))))))))))))))))))))))), hs, hL⟩
    ·
     rintro a w ⟨hk, hs, hL⟩
     refine d_1 17 262143 rfl (by kernel_rfl) fun K hK => ?_
     refine q_call (caps := []) hk rfl rfl Tryz.func120 fo120 rfl rfl (zmul_c (x := (wr (pt s v) u k)) (y := ((pt s v u) - (pt s v k))) _ rfl rfl) ?_
     rintro _ w ⟨rfl, hb⟩
     have hs := hs.below hb
     refine ⟨_, rfl, fun a hk => ?_⟩
     have hL := okL.cons (hs.mi 2 rfl) (okL.cons (hs.ri 0 rfl) okL.nil)
     refine c_end (x_t (hK _ _ hL ?_))
     clear hK K
     refine d_1 18 524287 rfl (by kernel_rfl) fun K hK => ?_
     refine q_v hk (w_iaL (k := u) rfl rfl Tryz.underlying51 ty56 (blk_lst (hs.mi 1 rfl) (en_len vq_len) (Nat.le_refl _)) (by omega) (by omega)) fun a hk => ?_
     have hL := okL.cons (hs.mi 2 rfl) (okL.cons (hs.ri 0 rfl) okL.nil)
     refine c_end (x_t (hK _ _ hL ?_))
     clear hK K
     refine d_1 19 1048575 rfl (by kernel_rfl) fun K hK => ?_
     have hs := hs.up1
     refine q_stoE (c := vq) (xx := (mq ((wr (pt s v) u k) * ((pt s v u) - (pt s v k))))) (k := u) hk hs rfl rfl rfl ty56 rfl vq_len rfl (by omega) rfl fun w hs => ?_
     have hL := okL.cons (hs.mi 2 rfl) (okL.cons (hs.ri 0 rfl) okL.nil)
     refine c_end (x_t (hK _ _ hL ?_))
     clear hK K
     refine d_end (by kernel_rfl) ?_
     refine (x_b (x_t ?_))
     refine wR ?_
     refine q_v hk (w_add rfl rfl (wr64 (by omega) (by omega))) fun a hk => ?_
     refine q_v hk (w_mv rfl) fun a hk => ?_
     refine c_end (x_t ?_)
     have hs := hs.rw0 (congrArg (fun q => blk b3 q 56) (wi_step (x := pt s v) (by omega)))
     rw [pf_ne (by omega)] at hT
     have hs := hs.up1
     have hs := hs.up2
     have hs := hs.up2
     exact ⟨k + 1, ⟨_, (by omega), hT, hk.k rfl (hk.k rfl (hk.k rfl (hk.k rfl (hk.k rfl (hk.k rfl (hk.k rfl (hk.k rfl (hk.k rfl (hk.k rfl (hk.k rfl (hk.k rfl (hk.k rfl (hk.k rfl (hk.k rfl (hk.k rfl (hk.k rfl (hk.k rfl hk.nil))))))))))))))))), hs⟩, by omega⟩
   ·
    refine q_v hk (w_ne rfl rfl (decide_eq_false hc6)) fun a hk => ?_
    refine c_end (x_t ?_)
    refine c_F hk rfl ?_
    refine (wpIn_skip (x_b (x_t ?_)))
    refine wR ?_
    refine q_v hk (w_add rfl rfl (wr64 (by omega) (by omega))) fun a hk => ?_
    refine q_v hk (w_mv rfl) fun a hk => ?_
    refine c_end (x_t ?_)
    have hs := hs.rw0 (congrArg (fun q => blk b3 q 56) (wi_skip (x := pt s v) (by omega)))
    rw [pf_eq (by omega)] at hT
    exact ⟨k + 1, ⟨_, (by omega), hT, hk.k rfl (hk.k rfl (hk.k rfl (hk.k rfl (hk.k rfl (hk.k rfl (hk.k rfl (hk.k rfl (hk.k rfl (hk.k rfl (hk.k rfl (hk.k rfl (hk.k rfl (hk.k rfl (hk.k rfl (hk.k rfl (hk.k rfl (hk.k rfl hk.nil))))))))))))))))), hs⟩, by omega⟩
  ·
   refine q_v hk (w_lt rfl rfl (decide_eq_false hc5)) fun a hk => ?_
   refine c_end (x_t (wS ?_))
   refine c_F hk rfl ?_
   refine (wpIn_exit (x_te (x_te (x_be ?_))))
   refine (x_b (x_t ?_))
   refine wR ?_
   refine q_v hk (w_add rfl rfl (wr64 (by omega) (by omega))) fun a hk => ?_
   refine q_v hk (w_mv rfl) fun a hk => ?_
   refine c_end (x_t ?_)
   have hkn : k = n := by omega
   subst hkn
   have hs := hs.rw0 (congrArg (fun q => blk b3 q 56) (wi_shut (x := pt s v) (u := u)))
   rw [pf_row] at hT
   exact ⟨u + 1, ⟨_, (by omega), hT, hk.k rfl (hk.k rfl (hk.k rfl (hk.k rfl (hk.k rfl (hk.k rfl (hk.k rfl (hk.k rfl hk.nil))))))), hs⟩, by omega⟩
 ·
  refine q_v hk (w_lt rfl rfl (decide_eq_false hc4)) fun a hk => ?_
  refine c_end (x_t (wS ?_))
  refine c_F hk rfl ?_
  refine (wpIn_exit (x_te (x_te (x_be ?_))))
  refine (x_t ?_)
  refine wS (wR ?_)
  refine q_v hk (w_mv rfl) fun a hk => ?_
  refine q_v hk (w_ldA rfl ty120 (.blk (n := 14) (hs.mi 1 rfl) rfl) rfl) fun a hk => ?_
  refine q_v hk (w_mv rfl) fun a hk => ?_
  have hun : u = n := by omega
  rw [hun] at hs hT
  have hs := hs.rw0 (congrArg (fun q => blk b3 q 56) (wdz_end (x := pt s v)))
  have hs := hs.frz (r := lst 4 (.slice (some ⟨b3, 0, none⟩) n n) n (en vq (fun i => mq (wr (pt s v) i n)) n)) (blk_lst (hs.mi 0 rfl) (en_len vq_len) (Nat.le_refl _)) (fun _ h => (Option.some.inj h.2).symm)
  have hs := hs.up1
  have hlu := pairFs_len (n := n) (u := n)
  have hnn : n * n ≤ 1000 * 1000 := Nat.mul_le_mul (by omega) (by omega)
  refine q_call (caps := []) hk rfl rfl Tryz.func144 fo144 rfl rfl (batch_m s n n (some ⟨b3, 0, none⟩) (fun i => wr (pt s v) i n) t (evs ++ upE 0 ((n : Nat) : Int) (pairF n)) _ _ hs hT (HasR.nth 0 rfl) (by omega) (by omega) (by simp only [List.length_append]; omega)) ?_
  rintro _ w ⟨b10, r11, rfl, ht12, hs⟩
  have hT := ht12
  refine ⟨_, rfl, fun a hk => ?_⟩
  refine q_v hk (w_as rfl) fun a hk => ?_
  refine q_v hk (w_as rfl) fun a hk => ?_
  refine c_end (x_t ?_)
  refine (wpIn_ret ?_)
  refine c_ret2 hk rfl rfl rfl ?_
  have hs := hs.up2
  have hs := hs.drop
  have hs := hs.toR (R' := R) (fun r hr => .of (by simp [hr]))
  rw [wE_eq h0] at hT
  exact ⟨_, _, rfl, hT, hs⟩
end Go.Proofs.YtdnkkbmpefhbjaaGreatDoor
namespace Go.Proofs.YtdnkkbmpefhbjaaGreatDoor
set_option linter.all false
open Go Go.RowKit Alg
def lin {s : Bool} (y : Zp s) (k : Nat) : Zp s := if k = 0 then 0 - y else 1
/-- The product of X - x i. -/
def mst {s : Bool} (x : Nat → Zp s) : Nat → Nat → Zp s
  | 0 => fun _ => 1
  | k + 1 => mall (mst x k) (lin (x k)) 2 (k + 1)
theorem mst_zero {s : Bool} {x : Nat → Zp s} : vq (rone s) = en vq (fun i => mq (mst x 0 i)) 1 := by
  show _ = vq (mq (1 : Zp s)) ++ []
  rw [mq_one, List.append_nil]
theorem lin_two {s : Bool} {y : Zp s} : vq (mq (0 - y)) ++ vq (rone s) = en vq (fun i => mq (lin y i)) 2 := by
  show _ = vq (mq (lin y 0)) ++ (vq (mq (lin y 1)) ++ [])
  show _ = vq (mq (0 - y)) ++ (vq (mq (1 : Zp s)) ++ [])
  rw [mq_one, List.append_nil]
/-- Weights for the value at zero. -/
def zw {s : Bool} (x : Nat → Zp s) (n i : Nat) : Zp s := wgt x n i * Hn (mst x n) (n + 1) (x i) n
def zwf {s : Bool} (x : Nat → Zp s) (n k i : Nat) : Nat := if i < k then mq (zw x n i) else mq (wgt x n i)
section
variable {s : Bool} {x : Nat → Zp s} {n k : Nat}
theorem zwf_zero : en vq (fun i => mq (wgt x n i)) n = en vq (zwf x n 0) n := en_congr fun i _ => by unfold zwf; rw [if_neg (Nat.not_lt_zero i)]
theorem zwf_at : zwf x n k k = mq (wgt x n k) := if_neg (Nat.lt_irrefl k)
theorem zwf_step : en vq (fun i => if i = k then mq (wgt x n k * Hn (mst x n) (n + 1) (x k) n) else zwf x n k i) n = en vq (zwf x n (k + 1)) n := en_congr fun i _ => by
  unfold zwf
  by_cases h : i = k
  · subst h; rw [if_pos rfl, if_pos (Nat.lt_succ_self _)]; rfl
  · rw [if_neg h]
    by_cases l : i < k
    · rw [if_pos l, if_pos (by omega)]
    · rw [if_neg l, if_neg (by omega)]
theorem zwf_end : en vq (zwf x n n) n = en vq (fun i => mq (zw x n i)) n := en_congr fun i hi => by unfold zwf; rw [if_pos hi]
end
/-- A sum of products. -/
def dot {s : Bool} (x y : Nat → Zp s) : Nat → Zp s
  | 0 => 0
  | k + 1 => dot x y k + x k * y k
theorem coef_next {E : List Ev} {k : Nat} : E ++ upE 0 ((k : Nat) : Int) coefE ++ [(2, ((k : Nat) : Int), 0)] = E ++ upE 0 ((k + 1 : Nat) : Int) coefE := by
  have e := upE_succ (F := coefE) (fr := 0) (x := (k : Int)) (by omega)
  rw [List.append_assoc, show [((2 : Int), ((k : Nat) : Int), (0 : Int))] = coefE (k : Int) from rfl, e]
  rfl
theorem master_m {F0 : Nat → Prop} {W : World} {M R : List Res} (s : Bool) (n lc : Nat) (la : Option Addr) (x : Nat → Zp s) (w0 : World) (hs : Sat F0 W M ((lst 4 (.slice la n lc) n (en vq (fun i => mq (x i)) n)) :: R) w0) (hn : n ≤ 1000) : Calls Tryz.prog 118 [fieldV s, .slice la n lc].toArray w0 fun e w => ∃ b, e = .returned (.slice (some ⟨b, 0, none⟩) (n + 1) (n + 1)) ∧ Sat F0 W (blk b (en vq (fun i => mq (mst x n i)) (n + 1)) 56 :: M) R w := by
 refine c_enter (args := [fieldV s, .slice la n lc]) Tryz.func118 rfl rfl rfl fun a hk => ?_
 refine wS (wR ?_)
 refine q_box (vs := fieldL s) hk hs rfl rfl rfl rfl fun b1 w a hk hs => ?_
 refine q_v hk (w_as rfl) fun a hk => ?_
 refine c_end (x_t (wS (wR ?_)))
 refine q_v hk (w_fa rfl fq120_3 ty56) fun a hk => ?_
 refine q_v hk (w_ldv (z := rone s) rfl ty56 (.blk (n := 4) (hs.mi 0 rfl) rfl)) fun a hk => ?_
 refine q_bsl (els := [.tmp 9]) (cs := [.int .u64 ((dg 0 (rone s) : Nat) : Int), .int .u64 ((dg 1 (rone s) : Nat) : Int), .int .u64 ((dg 2 (rone s) : Nat) : Int), .int .u64 ((dg 3 (rone s) : Nat) : Int)]) hk hs rfl Tryz.underlying51 ty56 zr56 rfl rfl rfl rfl rfl rfl rfl fun b2 w a hk hs => ?_
 refine q_v hk (w_as rfl) fun a hk => ?_
 refine c_end (x_t (wS (wS (wR ?_))))
 refine q_v hk (w_mv rfl) fun a hk => ?_
 refine q_v hk (w_len rfl Tryz.underlying51) fun a hk => ?_
 refine q_v hk (w_mv rfl) fun a hk => ?_
 refine c_end (x_t ?_)
 refine wpIn_block ?_
 have hs := hs.rw0 (congrArg (fun q => blk b2 q 56) (mst_zero (x := x)))
 refine c_loop (α := Nat) (fun k a w => ∃ (ob : Nat), k ≤ n ∧ Kn [] 28 [(13, .int .i64 ((k : Nat) : Int)), (5, .slice (some ⟨ob, 0, none⟩) (k + 1) (k + 1)), (12, .int .i64 ((n : Nat) : Int)), (11, .slice la n lc), (4, .slice none 0 0), (2, .pointer (some ⟨b1, 0, none⟩))] a ∧ Sat F0 W ((blk ob (en vq (fun i => mq (mst x k i)) (k + 1)) 56) :: (blk b1 (fieldL s) 120) :: M) ((lst 4 (.slice la n lc) n (en vq (fun i => mq (x i)) n)) :: R) w) (fun k => n - k) 0 ?_ ?_
 · exact ⟨_, (by omega), hk.k rfl (hk.k rfl (hk.k rfl (hk.k rfl (hk.k rfl (hk.k rfl hk.nil))))), hs⟩
 rintro k a w ⟨ob, hf0, hk, hs⟩
 refine wS (wR ?_)
 rcases Classical.em (((k : Nat) : Int) < ((n : Nat) : Int)) with hc3 | hc3
 ·
  refine q_v hk (w_lt rfl rfl (decide_eq_true hc3)) fun a hk => ?_
  refine c_end (x_t (wS ?_))
  refine c_T hk rfl ?_
  refine (wpIn_skip (x_t ?_))
  refine wS ?_
  refine wpIn_block ?_
  refine wS (wR ?_)
  refine q_v hk (w_iaL (k := k) rfl rfl Tryz.underlying51 ty56 (hs.ri 0 rfl) (by omega) (by omega)) fun a hk => ?_
  refine q_v hk (w_ldv (z := mq (x k)) rfl ty56 (lstq (k := k) (hs.ri 0 rfl) (by omega) (en_chunk vq_len (by omega)))) fun a hk => ?_
  refine q_alc (vs := [.int .u64 0, .int .u64 0, .int .u64 0, .int .u64 0]) hk hs zr56 rfl rfl rfl fun b4 w a hk hs => ?_
  refine q_sto (o := 0) (cs := [.int .u64 ((dg 0 (mq (x k)) : Nat) : Int), .int .u64 ((dg 1 (mq (x k)) : Nat) : Int), .int .u64 ((dg 2 (mq (x k)) : Nat) : Int), .int .u64 ((dg 3 (mq (x k)) : Nat) : Int)]) (vs' := [.int .u64 ((dg 0 (mq (x k)) : Nat) : Int), .int .u64 ((dg 1 (mq (x k)) : Nat) : Int), .int .u64 ((dg 2 (mq (x k)) : Nat) : Int), .int .u64 ((dg 3 (mq (x k)) : Nat) : Int)]) hk hs rfl rfl rfl ty56 rfl rfl rfl rfl rfl rfl fun w hs => ?_
  refine c_end (x_t ?_)
  have hL := okL.cons (hs.mi 2 rfl) (okL.cons (hs.mi 0 rfl) okL.nil)
  refine d_begin _ 10 (by kernel_rfl) rfl hs hL fun w hs hL => ?_
  refine d_w 0 1 hk hL rfl (fun w hL => w_ldA rfl ty120 (.blk (n := 14) (hL.at 0 rfl) rfl) rfl) fun a hk => ?_
  refine d_w 1 3 hk hL rfl (fun w hL => w_mv rfl) fun a hk => ?_
  refine d_w 2 7 hk hL rfl (fun w hL => w_ldA rfl ty120 (.blk (n := 14) (hL.at 0 rfl) rfl) rfl) fun a hk => ?_
  refine d_w 3 15 hk hL rfl (fun w hL => w_ldv (z := mq (x k)) rfl ty56 (.blk (n := 4) (hL.at 1 rfl) rfl)) fun a hk => ?_
  refine d_w 5 47 hk hL rfl (fun w hL => w_fa rfl fq120_3 ty56) fun a hk => ?_
  refine d_w 6 111 hk hL rfl (fun w hL => w_ldv (z := rone s) rfl ty56 (.blk (n := 4) (hL.at 0 rfl) rfl)) fun a hk => ?_
  refine d_1 4 127 rfl (by kernel_rfl) fun K hK => ?_
  refine q_call (caps := []) hk rfl rfl Tryz.func146 fo146 rfl rfl (zneg_c (x := (x k)) _ rfl) ?_
  rintro _ w ⟨rfl, hb⟩
  have hs := hs.below hb
  refine ⟨_, rfl, fun a hk => ?_⟩
  have hL := okL.cons (hs.mi 2 rfl) (okL.cons (hs.mi 0 rfl) okL.nil)
  refine c_end (x_t (hK _ _ hL ?_))
  clear hK K
  refine d_1 7 255 rfl (by kernel_rfl) fun K hK => ?_
  refine q_bsl (els := [.tmp 21, .tmp 23]) (cs := [.int .u64 ((dg 0 (mq (0 - (x k))) : Nat) : Int), .int .u64 ((dg 1 (mq (0 - (x k))) : Nat) : Int), .int .u64 ((dg 2 (mq (0 - (x k))) : Nat) : Int), .int .u64 ((dg 3 (mq (0 - (x k))) : Nat) : Int), .int .u64 ((dg 0 (rone s) : Nat) : Int), .int .u64 ((dg 1 (rone s) : Nat) : Int), .int .u64 ((dg 2 (rone s) : Nat) : Int), .int .u64 ((dg 3 (rone s) : Nat) : Int)]) hk hs rfl Tryz.underlying51 ty56 zr56 rfl rfl rfl rfl rfl rfl rfl fun b1_7 w a hk hs => ?_
  have hL := okL.cons (hs.mi 3 rfl) (okL.cons (hs.mi 1 rfl) okL.nil)
  refine c_end (x_t (hK _ _ hL ?_))
  clear hK K
  refine d_1 8 511 rfl (by kernel_rfl) fun K hK => ?_
  have hs := hs.rw0 (congrArg (fun q => blk b1_7 q 56) (lin_two (y := x k)))
  have hs := hs.frz (r := lst 4 (.slice (some ⟨b1_7, 0, none⟩) 2 2) 2 (en vq (fun i => mq (lin (x k) i)) 2)) (blk_lst (hs.mi 0 rfl) (en_len vq_len) (Nat.le_refl _)) (fun _ h => (Option.some.inj h.2).symm)
  have hs := hs.up1
  have hs := hs.frz (r := lst 4 (.slice (some ⟨ob, 0, none⟩) (k + 1) (k + 1)) (k + 1) (en vq (fun i => mq (mst x k i)) (k + 1))) (blk_lst (hs.mi 0 rfl) (en_len vq_len) (Nat.le_refl _)) (fun _ h => (Option.some.inj h.2).symm)
  refine q_call (caps := []) hk rfl rfl Tryz.func145 fo145 rfl rfl (mul_m s (k + 1) (k + 1) 2 2 (some ⟨ob, 0, none⟩) (some ⟨b1_7, 0, none⟩) (mst x k) (lin (x k)) _ ((hs.hasR (HasR.nth 1 rfl)).hasR (HasR.nth 0 rfl).cons) (by omega) (by omega) (by omega) (by omega)) ?_
  rintro _ w ⟨b1_8, rfl, hs⟩
  have hs := hs.subR (R' := ((lst 4 (.slice la n lc) n (en vq (fun i => mq (x i)) n)) :: R)) (by simp +contextual)
  have hs : Sat F0 W ((blk b1_8 (en vq (fun i => mq (mst x (k + 1) i)) (k + 1 + 1)) 56) :: (blk b4 [.int .u64 ((dg 0 (mq (x k)) : Nat) : Int), .int .u64 ((dg 1 (mq (x k)) : Nat) : Int), .int .u64 ((dg 2 (mq (x k)) : Nat) : Int), .int .u64 ((dg 3 (mq (x k)) : Nat) : Int)] 56) :: (blk b1 (fieldL s) 120) :: M) ((lst 4 (.slice la n lc) n (en vq (fun i => mq (x i)) n)) :: R) w := hs
  refine ⟨_, rfl, fun a hk => ?_⟩
  have hL := okL.cons (hs.mi 2 rfl) (okL.cons (hs.mi 1 rfl) okL.nil)
  refine c_end (x_t (hK _ _ hL ?_))
  clear hK K
  refine d_w 9 1023 hk hL rfl (fun w hL => w_as rfl) fun a hk => ?_
  refine d_end (by kernel_rfl) ?_
  refine (x_b (x_t ?_))
  refine wR ?_
  refine q_v hk (w_add rfl rfl (wr64 (by omega) (by omega))) fun a hk => ?_
  refine q_v hk (w_mv rfl) fun a hk => ?_
  refine c_end (x_t ?_)
  have hs := hs.up1
  have hs := hs.drop
  exact ⟨k + 1, ⟨_, (by omega), hk.k rfl (hk.k rfl (hk.k rfl (hk.k rfl (hk.k rfl (hk.k rfl hk.nil))))), hs⟩, by omega⟩
 ·
  refine q_v hk (w_lt rfl rfl (decide_eq_false hc3)) fun a hk => ?_
  refine c_end (x_t (wS ?_))
  refine c_F hk rfl ?_
  refine (wpIn_exit (x_te (x_te (x_be ?_))))
  refine (x_t ?_)
  refine wS (wR ?_)
  refine q_v hk (w_mv rfl) fun a hk => ?_
  refine q_v hk (w_as rfl) fun a hk => ?_
  refine c_end (x_t ?_)
  refine (wpIn_ret ?_)
  refine c_ret1 hk rfl rfl ?_
  have hs := hs.up1
  have hs := hs.drop
  have hs := hs.toR (R' := R) (fun r hr => .of (by simp [hr]))
  have hkn : k = n := by omega
  rw [hkn] at hs ⊢
  exact ⟨_, rfl, hs⟩
theorem zero_m {F0 : Nat → Prop} {W : World} {M R : List Res} (s : Bool) (n lc : Nat) (la : Option Addr) (v : Nat → Nat) (t : Option Nat) (evs : List Ev) (r : Res) (w0 : World) (hs : Sat F0 W (r :: M) R w0) (hT : TapeIs t evs r) (hL : HasR (lst 1 (.slice la n lc) n (en ic (fun i => ((v i : Nat) : Int)) n)) R) (h0 : 0 < n) (hn : n ≤ 255) (hv : ∀ i, i < n → 1 ≤ v i ∧ v i ≤ 255) (hd : ∀ i k, i < k → k < n → v i ≠ v k) (he : evs.length ≤ 10000000) : Calls Tryz.prog 79 [tval t, fieldV s, .slice la n lc].toArray w0 fun e w => ∃ b r, e = .returned (.tuple #[.slice (some ⟨b, 0, none⟩) n n, .int .i64 0]) ∧ TapeIs t (evs ++ weightsE (n : Int) ++ upE 0 (n : Int) coefE) r ∧ Sat F0 W (r :: blk b (en vq (fun i => mq (zw (pt s v) n i)) n) 56 :: M) R w := by
 refine c_enter (args := [tval t, fieldV s, .slice la n lc]) Tryz.func79 rfl rfl rfl fun a hk => ?_
 refine wS (wR ?_)
 refine q_box (vs := fieldL s) hk hs rfl rfl rfl rfl fun b1 w a hk hs => ?_
 refine q_v hk (w_as rfl) fun a hk => ?_
 refine q_v hk (w_as rfl) fun a hk => ?_
 refine c_end (x_t (wS (wR ?_)))
 refine q_v hk (w_mv rfl) fun a hk => ?_
 refine q_v hk (w_ldA rfl ty120 (.blk (n := 14) (hs.mi 0 rfl) rfl) rfl) fun a hk => ?_
 refine q_v hk (w_mv rfl) fun a hk => ?_
 have hs := hs.up1
 refine q_call (caps := []) hk rfl rfl Tryz.func116 fo116 rfl rfl (weights_m0 s n lc la v t evs _ _ hs hT (hL) h0 hn hv hd (by omega)) ?_
 rintro _ w ⟨b2, r3, rfl, ht4, hs⟩
 have hT := ht4
 refine ⟨_, rfl, fun a hk => ?_⟩
 refine q_v hk (w_mv rfl) fun a hk => ?_
 refine q_v hk (w_ext rfl rfl) fun a hk => ?_
 refine q_v hk (w_ext rfl rfl) fun a hk => ?_
 refine q_v hk (w_as rfl) fun a hk => ?_
 refine q_v hk (w_as rfl) fun a hk => ?_
 refine c_end (x_t (wS (wS (wR ?_))))
 refine q_v hk (w_mv rfl) fun a hk => ?_
 refine q_v hk (w_ne rfl rfl (decide_eq_false (by decide))) fun a hk => ?_
 refine c_end (x_t ?_)
 refine c_F hk rfl ?_
 refine (wpIn_skip (x_t ?_))
 refine wS (wR ?_)
 refine q_v hk (w_ldA rfl ty120 (.blk (n := 14) (hs.mi 2 rfl) rfl) rfl) fun a hk => ?_
 refine q_v hk (w_mv rfl) fun a hk => ?_
 refine q_call (caps := []) hk rfl rfl Tryz.func117 fo117 rfl rfl (points_m s n lc la v _ (hs.hasR (hL)) (by omega) hv) ?_
 rintro _ w ⟨b5, rfl, hs⟩
 have hs := hs.subR (R' := R) (by simp +contextual)
 refine ⟨_, rfl, fun a hk => ?_⟩
 refine q_v hk (w_as rfl) fun a hk => ?_
 have hs := hs.frz (r := lst 4 (.slice (some ⟨b5, 0, none⟩) n n) n (en vq (fun i => mq (pt s v i)) n)) (blk_lst (hs.mi 0 rfl) (en_len vq_len) (Nat.le_refl _)) (fun _ h => (Option.some.inj h.2).symm)
 refine c_end (x_t (wS (wR ?_)))
 refine q_v hk (w_ldA rfl ty120 (.blk (n := 14) (hs.mi 2 rfl) rfl) rfl) fun a hk => ?_
 refine q_v hk (w_mv rfl) fun a hk => ?_
 refine q_call (caps := []) hk rfl rfl Tryz.func118 fo118 rfl rfl (master_m s n n (some ⟨b5, 0, none⟩) (pt s v) _ (hs.hasR (HasR.nth 0 rfl)) (by omega)) ?_
 rintro _ w ⟨b6, rfl, hs⟩
 have hs := hs.subR (R' := ((lst 4 (.slice (some ⟨b5, 0, none⟩) n n) n (en vq (fun i => mq (pt s v i)) n)) :: R)) (by simp +contextual)
 refine ⟨_, rfl, fun a hk => ?_⟩
 refine q_v hk (w_as rfl) fun a hk => ?_
 have hs := hs.frz (r := lst 4 (.slice (some ⟨b6, 0, none⟩) (n + 1) (n + 1)) (n + 1) (en vq (fun i => mq (mst (pt s v) n i)) (n + 1))) (blk_lst (hs.mi 0 rfl) (en_len vq_len) (Nat.le_refl _)) (fun _ h => (Option.some.inj h.2).symm)
 refine c_end (x_t (wS (wS (wR ?_))))
 refine q_v hk (w_mv rfl) fun a hk => ?_
 refine q_v hk (w_len rfl Tryz.underlying51) fun a hk => ?_
 refine q_v hk (w_mv rfl) fun a hk => ?_
 refine c_end (x_t ?_)
 refine wpIn_block ?_
 have hs := hs.up1
 have hs := hs.rw0 (congrArg (fun q => blk b2 q 56) (zwf_zero (x := pt s v)))
 refine c_loop (α := Nat) (fun k a w => ∃ (r : Res), k ≤ n ∧ TapeIs t (evs ++ weightsE (n : Int) ++ upE 0 ((k : Nat) : Int) coefE) r ∧ Kn [] 63 [(33, .int .i64 ((k : Nat) : Int)), (32, .int .i64 ((n : Nat) : Int)), (11, .slice (some ⟨b6, 0, none⟩) (n + 1) (n + 1)), (10, .slice (some ⟨b5, 0, none⟩) n n), (8, .slice (some ⟨b2, 0, none⟩) n n), (7, .int .i64 0), (6, .slice none 0 0), (4, .pointer (some ⟨b1, 0, none⟩)), (0, tval t)] a ∧ Sat F0 W ((blk b2 (en vq (fun i => zwf (pt s v) n k i) n) 56) :: r :: (blk b1 (fieldL s) 120) :: M) ((lst 4 (.slice (some ⟨b6, 0, none⟩) (n + 1) (n + 1)) (n + 1) (en vq (fun i => mq (mst (pt s v) n i)) (n + 1))) :: (lst 4 (.slice (some ⟨b5, 0, none⟩) n n) n (en vq (fun i => mq (pt s v i)) n)) :: R) w) (fun k => n - k) 0 ?_ ?_
 · exact ⟨_, (by omega), (by rw [upE_nil (by omega), List.append_nil]; exact hT), hk.k rfl (hk.k rfl (hk.k rfl (hk.k rfl (hk.k rfl (hk.k rfl (hk.k rfl (hk.k rfl (hk.k rfl hk.nil)))))))), hs⟩
 rintro k a w ⟨r, hf0, hf1, hk, hs⟩
 have hT := hf1
 have hlw := weights_len (n := (n : Int)) (by omega)
 have hlk := coefU_len k
 refine wS (wR ?_)
 rcases Classical.em (((k : Nat) : Int) < ((n : Nat) : Int)) with hc7 | hc7
 ·
  refine q_v hk (w_lt rfl rfl (decide_eq_true hc7)) fun a hk => ?_
  refine c_end (x_t (wS ?_))
  refine c_T hk rfl ?_
  refine (wpIn_skip (x_t ?_))
  refine wS ?_
  refine wpIn_block ?_
  refine wS (wR ?_)
  refine q_v hk (w_mv rfl) fun a hk => ?_
  refine q_v hk (w_as rfl) fun a hk => ?_
  refine c_end (x_t (wS (wR ?_)))
  refine q_v hk (w_mv rfl) fun a hk => ?_
  refine q_v hk (w_mv rfl) fun a hk => ?_
  have hs := hs.up1
  refine q_call (caps := []) hk rfl rfl Tryz.func61 fo61 rfl rfl (note_m t 2 ((k : Nat) : Int) 0 (evs ++ weightsE (n : Int) ++ upE 0 ((k : Nat) : Int) coefE) _ _ hT hs (by simp only [List.length_append]; omega)) ?_
  rintro _ w ⟨v8, r9, rfl, ht10, hs⟩
  have hT := ht10
  refine ⟨_, rfl, fun a hk => ?_⟩
  refine c_end (x_t (wS ?_))
  have hL := okL.cons (hs.mi 2 rfl) (okL.cons (hs.ri 1 rfl) okL.nil)
  refine d_begin _ 13 (by kernel_rfl) rfl hs hL fun w hs hL => ?_
  refine d_join (n2 := 1) 4095 (fun a w => ∃ (b1_6 : Nat) (b1_10 : Nat), Kn [] 63 [(13, .slice (some ⟨b1_6, 0, none⟩) (n + 1 - 1) (n + 1 - 1)), (14, .pointer (some ⟨b1_10, 0, none⟩)), (48, vec (mq (Hn (mst (pt s v) n) (n + 1) (pt s v k) (n + 1)))), (47, .slice (some ⟨b1_6, 0, none⟩) (n + 1 - 1) (n + 1 - 1)), (39, .tuple #[.slice (some ⟨b1_6, 0, none⟩) (n + 1 - 1) (n + 1 - 1), vec (mq (Hn (mst (pt s v) n) (n + 1) (pt s v k) (n + 1)))]), (46, .tuple #[.slice (some ⟨b1_6, 0, none⟩) (n + 1 - 1) (n + 1 - 1), vec (mq (Hn (mst (pt s v) n) (n + 1) (pt s v k) (n + 1)))]), (45, vec (mq (pt s v k))), (44, .pointer (some ((adq (some ⟨b5, 0, none⟩)).add (k * 4)))), (43, .int .i64 ((k : Nat) : Int)), (42, .slice (some ⟨b5, 0, none⟩) n n), (41, .slice (some ⟨b6, 0, none⟩) (n + 1) (n + 1)), (40, fieldV s), (38, v8), (37, .int .i64 ((k : Nat) : Int)), (36, tval t), (12, .int .i64 ((k : Nat) : Int)), (35, .int .i64 ((k : Nat) : Int)), (34, .bool true), (33, .int .i64 ((k : Nat) : Int)), (32, .int .i64 ((n : Nat) : Int)), (11, .slice (some ⟨b6, 0, none⟩) (n + 1) (n + 1)), (10, .slice (some ⟨b5, 0, none⟩) n n), (8, .slice (some ⟨b2, 0, none⟩) n n), (7, .int .i64 0), (6, .slice none 0 0), (4, .pointer (some ⟨b1, 0, none⟩)), (0, tval t)] a ∧ Sat F0 W ((blk b1_10 [.int .u64 0, .int .u64 0, .int .u64 0, .int .u64 0] 56) :: (blk b1_6 (en vq (fun i => mq (Hn (mst (pt s v) n) (n + 1) (pt s v k) (n + 1 - 1 - i))) (n + 1 - 1)) 56) :: r9 :: (blk b2 (en vq (fun i => zwf (pt s v) n k i) n) 56) :: (blk b1 (fieldL s) 120) :: M) ((lst 4 (.slice (some ⟨b6, 0, none⟩) (n + 1) (n + 1)) (n + 1) (en vq (fun i => mq (mst (pt s v) n i)) (n + 1))) :: (lst 4 (.slice (some ⟨b5, 0, none⟩) n n) n (en vq (fun i => mq (pt s v i)) n)) :: R) w ∧ okL [blk b1 (fieldL s) 120, lst 4 (.slice (some ⟨b5, 0, none⟩) n n) n (en vq (fun i => mq (pt s v i)) n)] w) ?_ ?_
  ·
   intro hJ4095
   refine d_w 0 1 hk hL rfl (fun w hL => w_ldA rfl ty120 (.blk (n := 14) (hL.at 0 rfl) rfl) rfl) fun a hk => ?_
   refine d_w 1 3 hk hL rfl (fun w hL => w_mv rfl) fun a hk => ?_
   refine d_w 2 7 hk hL rfl (fun w hL => w_mv rfl) fun a hk => ?_
   refine d_w 3 15 hk hL rfl (fun w hL => w_mv rfl) fun a hk => ?_
   refine d_w 4 31 hk hL rfl (fun w hL => w_iaL (k := k) rfl rfl Tryz.underlying51 ty56 (hL.at 1 rfl) (by omega) (by omega)) fun a hk => ?_
   refine d_w 5 63 hk hL rfl (fun w hL => w_ldv (z := mq (pt s v k)) rfl ty56 (lstq (k := k) (hL.at 1 rfl) (by omega) (en_chunk vq_len (by omega)))) fun a hk => ?_
   refine d_2 6 10 127 1087 rfl rfl (by kernel_rfl) (fun K hK => ?_) (fun K hK => ?_)
   ·
    have hs := hs.none
    refine q_call (caps := []) hk rfl rfl Tryz.func119 fo119 rfl rfl (quot_m s (n + 1) (n + 1) (some ⟨b6, 0, none⟩) (mst (pt s v) n) (pt s v k) none [] _ _ hs rfl (HasR.nth 0 rfl) (by omega) (by omega) (by decide)) ?_
    rintro _ w ⟨b1_6, r1_6b, rfl, ht1_6c, hs⟩
    have hs := hs.drop
    refine ⟨_, rfl, fun a hk => ?_⟩
    have hL := okL.cons (hs.mi 3 rfl) (okL.cons (hs.ri 1 rfl) okL.nil)
    refine c_end (x_t (hK _ _ hL ?_))
    clear hK K
    refine d_w 7 255 hk hL rfl (fun w hL => w_mv rfl) fun a hk => ?_
    refine d_w 8 511 hk hL rfl (fun w hL => w_ext rfl rfl) fun a hk => ?_
    refine d_w 9 1023 hk hL rfl (fun w hL => w_ext rfl rfl) fun a hk => ?_
    refine d_1 10 2047 rfl (by kernel_rfl) fun K hK => ?_
    refine q_alc (vs := [.int .u64 0, .int .u64 0, .int .u64 0, .int .u64 0]) hk hs zr56 rfl rfl rfl fun b1_10 w a hk hs => ?_
    have hL := okL.cons (hs.mi 4 rfl) (okL.cons (hs.ri 1 rfl) okL.nil)
    refine c_end (x_t (hK _ _ hL ?_))
    clear hK K
    refine d_w 11 4095 hk hL rfl (fun w hL => w_as rfl) fun a hk => ?_
    have hL := okL.cons (hs.mi 4 rfl) (okL.cons (hs.ri 1 rfl) okL.nil)
    exact hJ4095 _ _ ⟨_, _, hk.k rfl (hk.k rfl (hk.k rfl (hk.k rfl (hk.k rfl (hk.k rfl (hk.k rfl (hk.k rfl (hk.k rfl (hk.k rfl (hk.k rfl (hk.k rfl (hk.k rfl (hk.k rfl (hk.k rfl (hk.k rfl (hk.k rfl (hk.k rfl (hk.k rfl (hk.k rfl (hk.k rfl (hk.k rfl (hk.k rfl (hk.k rfl (hk.k rfl (hk.k rfl (hk.k rfl hk.nil)))))))))))))))))))))))))), hs, hL⟩
   ·
    refine q_alc (vs := [.int .u64 0, .int .u64 0, .int .u64 0, .int .u64 0]) hk hs zr56 rfl rfl rfl fun b1_10 w a hk hs => ?_
    have hL := okL.cons (hs.mi 3 rfl) (okL.cons (hs.ri 1 rfl) okL.nil)
    refine c_end (x_t (hK _ _ hL ?_))
    clear hK K
    refine d_1 6 1151 rfl (by kernel_rfl) fun K hK => ?_
    have hs := hs.none
    refine q_call (caps := []) hk rfl rfl Tryz.func119 fo119 rfl rfl (quot_m s (n + 1) (n + 1) (some ⟨b6, 0, none⟩) (mst (pt s v) n) (pt s v k) none [] _ _ hs rfl (HasR.nth 0 rfl) (by omega) (by omega) (by decide)) ?_
    rintro _ w ⟨b1_6, r1_6b, rfl, ht1_6c, hs⟩
    have hs := hs.drop
    refine ⟨_, rfl, fun a hk => ?_⟩
    have hL := okL.cons (hs.mi 4 rfl) (okL.cons (hs.ri 1 rfl) okL.nil)
    refine c_end (x_t (hK _ _ hL ?_))
    clear hK K
    refine d_w 7 1279 hk hL rfl (fun w hL => w_mv rfl) fun a hk => ?_
    refine d_w 8 1535 hk hL rfl (fun w hL => w_ext rfl rfl) fun a hk => ?_
    refine d_w 9 2047 hk hL rfl (fun w hL => w_ext rfl rfl) fun a hk => ?_
    refine d_w 11 4095 hk hL rfl (fun w hL => w_as rfl) fun a hk => ?_
    have hs := hs.up4
    have hs := hs.up4
    have hs := hs.up4
    have hs := hs.up3
    have hs := hs.up4
    have hL := okL.cons (hs.mi 4 rfl) (okL.cons (hs.ri 1 rfl) okL.nil)
    exact hJ4095 _ _ ⟨_, _, hk.k rfl (hk.k rfl (hk.k rfl (hk.k rfl (hk.k rfl (hk.k rfl (hk.k rfl (hk.k rfl (hk.k rfl (hk.k rfl (hk.k rfl (hk.k rfl (hk.k rfl (hk.k rfl (hk.k rfl (hk.k rfl (hk.k rfl (hk.k rfl (hk.k rfl (hk.k rfl (hk.k rfl (hk.k rfl (hk.k rfl (hk.k rfl (hk.k rfl (hk.k rfl (hk.k rfl hk.nil)))))))))))))))))))))))))), hs, hL⟩
  ·
   rintro a w ⟨b1_6, b1_10, hk, hs, hL⟩
   refine d_1 12 8191 rfl (by kernel_rfl) fun K hK => ?_
   refine q_sto (o := 0) (cs := [.int .u64 ((dg 0 (mq (Hn (mst (pt s v) n) (n + 1) (pt s v k) (n + 1))) : Nat) : Int), .int .u64 ((dg 1 (mq (Hn (mst (pt s v) n) (n + 1) (pt s v k) (n + 1))) : Nat) : Int), .int .u64 ((dg 2 (mq (Hn (mst (pt s v) n) (n + 1) (pt s v k) (n + 1))) : Nat) : Int), .int .u64 ((dg 3 (mq (Hn (mst (pt s v) n) (n + 1) (pt s v k) (n + 1))) : Nat) : Int)]) (vs' := [.int .u64 ((dg 0 (mq (Hn (mst (pt s v) n) (n + 1) (pt s v k) (n + 1))) : Nat) : Int), .int .u64 ((dg 1 (mq (Hn (mst (pt s v) n) (n + 1) (pt s v k) (n + 1))) : Nat) : Int), .int .u64 ((dg 2 (mq (Hn (mst (pt s v) n) (n + 1) (pt s v k) (n + 1))) : Nat) : Int), .int .u64 ((dg 3 (mq (Hn (mst (pt s v) n) (n + 1) (pt s v k) (n + 1))) : Nat) : Int)]) hk hs rfl rfl rfl ty56 rfl rfl rfl rfl rfl rfl fun w hs => ?_
   have hL := okL.cons (hs.mi 4 rfl) (okL.cons (hs.ri 1 rfl) okL.nil)
   refine c_end (x_t (hK _ _ hL ?_))
   clear hK K
   refine d_end (by kernel_rfl) ?_
   refine (x_t ?_)
   have hL := okL.cons (hs.mi 4 rfl) (okL.cons (hs.mi 1 rfl) okL.nil)
   refine d_begin _ 13 (by kernel_rfl) rfl hs hL fun w hs hL => ?_
   refine d_w 0 1 hk hL rfl (fun w hL => w_mv rfl) fun a hk => ?_
   refine d_w 1 3 hk hL rfl (fun w hL => w_mv rfl) fun a hk => ?_
   refine d_w 2 7 hk hL rfl (fun w hL => w_ldA rfl ty120 (.blk (n := 14) (hL.at 0 rfl) rfl) rfl) fun a hk => ?_
   refine d_w 3 15 hk hL rfl (fun w hL => w_mv rfl) fun a hk => ?_
   refine d_w 4 31 hk hL rfl (fun w hL => w_mv rfl) fun a hk => ?_
   refine d_w 7 159 hk hL rfl (fun w hL => w_mv rfl) fun a hk => ?_
   refine d_w 8 415 hk hL rfl (fun w hL => w_iaL (k := 0) rfl rfl Tryz.underlying51 ty56 (blk_lst (hL.at 1 rfl) (en_len vq_len) (Nat.le_refl _)) (by omega) (by omega)) fun a hk => ?_
   refine d_w 9 927 hk hL rfl (fun w hL => w_ldv (z := mq (Hn (mst (pt s v) n) (n + 1) (pt s v k) n)) rfl ty56 (vq_eq rfl (lstq (k := 0) (blk_lst (hL.at 1 rfl) (en_len vq_len) (Nat.le_refl _)) (by omega) (en_chunk vq_len (by omega))))) fun a hk => ?_
   refine d_1 5 959 rfl (by kernel_rfl) fun K hK => ?_
   refine q_v hk (w_iaL (k := k) rfl rfl Tryz.underlying51 ty56 (blk_lst (hs.mi 3 rfl) (en_len vq_len) (Nat.le_refl _)) (by omega) (by omega)) fun a hk => ?_
   have hL := okL.cons (hs.mi 4 rfl) (okL.cons (hs.mi 1 rfl) okL.nil)
   refine c_end (x_t (hK _ _ hL ?_))
   clear hK K
   refine d_1 6 1023 rfl (by kernel_rfl) fun K hK => ?_
   refine q_v hk (w_ldv (z := mq (wgt (pt s v) n k)) rfl ty56 (vq_eq zwf_at (lstq (k := k) (blk_lst (hs.mi 3 rfl) (en_len vq_len) (Nat.le_refl _)) (by omega) (en_chunk vq_len (by omega))))) fun a hk => ?_
   have hL := okL.cons (hs.mi 4 rfl) (okL.cons (hs.mi 1 rfl) okL.nil)
   refine c_end (x_t (hK _ _ hL ?_))
   clear hK K
   refine d_1 10 2047 rfl (by kernel_rfl) fun K hK => ?_
   refine q_call (caps := []) hk rfl rfl Tryz.func120 fo120 rfl rfl (zmul_c (x := (wgt (pt s v) n k)) (y := (Hn (mst (pt s v) n) (n + 1) (pt s v k) n)) _ rfl rfl) ?_
   rintro _ w ⟨rfl, hb⟩
   have hs := hs.below hb
   refine ⟨_, rfl, fun a hk => ?_⟩
   have hL := okL.cons (hs.mi 4 rfl) (okL.cons (hs.mi 1 rfl) okL.nil)
   refine c_end (x_t (hK _ _ hL ?_))
   clear hK K
   refine d_1 11 4095 rfl (by kernel_rfl) fun K hK => ?_
   refine q_v hk (w_iaL (k := k) rfl rfl Tryz.underlying51 ty56 (blk_lst (hs.mi 3 rfl) (en_len vq_len) (Nat.le_refl _)) (by omega) (by omega)) fun a hk => ?_
   have hL := okL.cons (hs.mi 4 rfl) (okL.cons (hs.mi 1 rfl) okL.nil)
   refine c_end (x_t (hK _ _ hL ?_))
   clear hK K
   refine d_1 12 8191 rfl (by kernel_rfl) fun K hK => ?_
   have hs := hs.up3
   refine q_stoE (c := vq) (xx := (mq ((wgt (pt s v) n k) * (Hn (mst (pt s v) n) (n + 1) (pt s v k) n)))) (k := k) hk hs rfl rfl rfl ty56 rfl vq_len rfl (by omega) rfl fun w hs => ?_
   have hL := okL.cons (hs.mi 4 rfl) (okL.cons (hs.mi 2 rfl) okL.nil)
   refine c_end (x_t (hK _ _ hL ?_))
   clear hK K
   refine d_end (by kernel_rfl) ?_
   refine (x_b (x_t ?_))
   refine wR ?_
   refine q_v hk (w_add rfl rfl (wr64 (by omega) (by omega))) fun a hk => ?_
   refine q_v hk (w_mv rfl) fun a hk => ?_
   refine c_end (x_t ?_)
   have hs := hs.rw0 (congrArg (fun q => blk b2 q 56) (zwf_step (x := pt s v)))
   rw [coef_next] at hT
   have hs := hs.up1
   have hs := hs.drop
   have hs := hs.up1
   have hs := hs.drop
   exact ⟨k + 1, ⟨_, (by omega), hT, hk.k rfl (hk.k rfl (hk.k rfl (hk.k rfl (hk.k rfl (hk.k rfl (hk.k rfl (hk.k rfl (hk.k rfl hk.nil)))))))), hs⟩, by omega⟩
 ·
  refine q_v hk (w_lt rfl rfl (decide_eq_false hc7)) fun a hk => ?_
  refine c_end (x_t (wS ?_))
  refine c_F hk rfl ?_
  refine (wpIn_exit (x_te (x_te (x_be ?_))))
  refine (x_t ?_)
  refine wS (wR ?_)
  refine q_v hk (w_mv rfl) fun a hk => ?_
  refine q_v hk (w_as rfl) fun a hk => ?_
  refine q_v hk (w_as rfl) fun a hk => ?_
  refine c_end (x_t ?_)
  refine (wpIn_ret ?_)
  refine c_ret2 hk rfl rfl rfl ?_
  have hs := hs.up2
  have hs := hs.drop
  have hs := hs.up1
  have hs := hs.toR (R' := R) (fun r hr => .of (by simp [hr]))
  have hkn : k = n := by omega
  rw [hkn] at hs hT
  rw [zwf_end] at hs
  exact ⟨_, _, rfl, hT, hs⟩
theorem dot_m {F0 : Nat → Prop} {W : World} {M R : List Res} (s : Bool) (n ca cb : Nat) (aa ab : Option Addr) (px py : Nat → Zp s) (t : Option Nat) (evs : List Ev) (r : Res) (w0 : World) (hs : Sat F0 W (r :: M) ((lst 4 (.slice aa n ca) n (en vq (fun i => mq (px i)) n)) :: (lst 4 (.slice ab n cb) n (en vq (fun i => mq (py i)) n)) :: R) w0) (hT : TapeIs t evs r) (hn : n ≤ 1000) (he : evs.length ≤ 1000000000) : Calls Tryz.prog 83 [tval t, fieldV s, .slice aa n ca, .slice ab n cb].toArray w0 fun e w => ∃ r, e = .returned (.tuple #[vec (mq (dot px py n)), .int .i64 0]) ∧ TapeIs t (evs ++ upE 0 (n : Int) coefE) r ∧ Sat F0 W (r :: M) R w := by
 refine c_enter (args := [tval t, fieldV s, .slice aa n ca, .slice ab n cb]) Tryz.func83 rfl rfl rfl fun a hk => ?_
 refine wS (wR ?_)
 refine q_box (vs := fieldL s) hk hs rfl rfl rfl rfl fun b1 w a hk hs => ?_
 refine q_alc (vs := [.int .u64 0, .int .u64 0, .int .u64 0, .int .u64 0]) hk hs zr56 rfl rfl rfl fun b2 w a hk hs => ?_
 refine q_v hk (w_as rfl) fun a hk => ?_
 refine c_end (x_t (wS (wR ?_)))
 refine q_alc (vs := [.int .u64 0, .int .u64 0, .int .u64 0, .int .u64 0]) hk hs zr56 rfl rfl rfl fun b3 w a hk hs => ?_
 refine c_end (x_t (wS (wS (wR ?_))))
 refine q_v hk (w_mv rfl) fun a hk => ?_
 refine q_v hk (w_len rfl Tryz.underlying51) fun a hk => ?_
 refine q_v hk (w_mv rfl) fun a hk => ?_
 refine q_v hk (w_len rfl Tryz.underlying51) fun a hk => ?_
 refine q_v hk (w_ne rfl rfl (decide_eq_false (by omega))) fun a hk => ?_
 refine c_end (x_t ?_)
 refine c_F hk rfl ?_
 refine (wpIn_skip (x_t ?_))
 refine wS (wS (wR ?_))
 refine q_v hk (w_mv rfl) fun a hk => ?_
 refine q_v hk (w_len rfl Tryz.underlying51) fun a hk => ?_
 refine q_v hk (w_mv rfl) fun a hk => ?_
 refine c_end (x_t ?_)
 refine wpIn_block ?_
 have hs := hs.rw0 (show blk b3 [.int .u64 0, .int .u64 0, .int .u64 0, .int .u64 0] 56 = blk b3 [.int .u64 ((dg 0 0 : Nat) : Int), .int .u64 ((dg 1 0 : Nat) : Int), .int .u64 ((dg 2 0 : Nat) : Int), .int .u64 ((dg 3 0 : Nat) : Int)] 56 from rfl)
 have hs := hs.rw0 (show _ = blk b3 (vq (mq (dot px py 0))) 56 from by show blk b3 (vq 0) 56 = blk b3 (vq (mq 0)) 56; rw [mq_zero])
 refine c_loop (α := Nat) (fun k a w => ∃ (r : Res), k ≤ n ∧ TapeIs t (evs ++ upE 0 ((k : Nat) : Int) coefE) r ∧ Kn [] 41 [(20, .int .i64 ((k : Nat) : Int)), (19, .int .i64 ((n : Nat) : Int)), (10, .pointer (some ⟨b3, 0, none⟩)), (9, .int .i64 0), (8, .pointer (some ⟨b2, 0, none⟩)), (5, .pointer (some ⟨b1, 0, none⟩)), (0, tval t), (2, .slice aa n ca), (3, .slice ab n cb)] a ∧ Sat F0 W ((blk b3 [.int .u64 ((dg 0 (mq (dot px py k)) : Nat) : Int), .int .u64 ((dg 1 (mq (dot px py k)) : Nat) : Int), .int .u64 ((dg 2 (mq (dot px py k)) : Nat) : Int), .int .u64 ((dg 3 (mq (dot px py k)) : Nat) : Int)] 56) :: (blk b2 [.int .u64 0, .int .u64 0, .int .u64 0, .int .u64 0] 56) :: (blk b1 (fieldL s) 120) :: r :: M) ((lst 4 (.slice aa n ca) n (en vq (fun i => mq (px i)) n)) :: (lst 4 (.slice ab n cb) n (en vq (fun i => mq (py i)) n)) :: R) w) (fun k => n - k) 0 ?_ ?_
 · exact ⟨_, (by omega), (by rw [upE_nil (by omega), List.append_nil]; exact hT), hk.k rfl (hk.k rfl (hk.k rfl (hk.k rfl (hk.k rfl (hk.k rfl (hk.k rfl (hk.k rfl (hk.k rfl hk.nil)))))))), hs⟩
 rintro k a w ⟨r, hf0, hf1, hk, hs⟩
 have hT := hf1
 have hlk := coefU_len k
 refine wS (wR ?_)
 rcases Classical.em (((k : Nat) : Int) < ((n : Nat) : Int)) with hc4 | hc4
 ·
  refine q_v hk (w_lt rfl rfl (decide_eq_true hc4)) fun a hk => ?_
  refine c_end (x_t (wS ?_))
  refine c_T hk rfl ?_
  refine (wpIn_skip (x_t ?_))
  refine wS ?_
  refine wpIn_block ?_
  refine wS (wR ?_)
  refine q_v hk (w_mv rfl) fun a hk => ?_
  refine q_v hk (w_as rfl) fun a hk => ?_
  refine c_end (x_t (wS (wR ?_)))
  refine q_v hk (w_mv rfl) fun a hk => ?_
  refine q_v hk (w_mv rfl) fun a hk => ?_
  have hs := hs.up3
  refine q_call (caps := []) hk rfl rfl Tryz.func61 fo61 rfl rfl (note_m t 2 ((k : Nat) : Int) 0 (evs ++ upE 0 ((k : Nat) : Int) coefE) _ _ hT hs (by simp only [List.length_append]; omega)) ?_
  rintro _ w ⟨v5, r6, rfl, ht7, hs⟩
  have hT := ht7
  refine ⟨_, rfl, fun a hk => ?_⟩
  refine c_end (x_t ?_)
  have hL := okL.cons (hs.mi 3 rfl) (okL.cons (hs.ri 0 rfl) (okL.cons (hs.ri 1 rfl) okL.nil))
  refine d_begin _ 14 (by kernel_rfl) rfl hs hL fun w hs hL => ?_
  refine d_join (n2 := 2) 4095 (fun a w => Kn [] 41 [(37, vec (mq ((px k) * (py k)))), (27, vec (mq (dot px py k))), (36, vec (mq (py k))), (35, .pointer (some ((adq ab).add (k * 4)))), (34, .int .i64 ((k : Nat) : Int)), (33, .slice ab n cb), (32, vec (mq (px k))), (31, .pointer (some ((adq aa).add (k * 4)))), (30, .int .i64 ((k : Nat) : Int)), (29, .slice aa n ca), (28, fieldV s), (26, fieldV s), (25, v5), (24, .int .i64 ((k : Nat) : Int)), (23, tval t), (11, .int .i64 ((k : Nat) : Int)), (22, .int .i64 ((k : Nat) : Int)), (21, .bool true), (20, .int .i64 ((k : Nat) : Int)), (19, .int .i64 ((n : Nat) : Int)), (10, .pointer (some ⟨b3, 0, none⟩)), (9, .int .i64 0), (8, .pointer (some ⟨b2, 0, none⟩)), (5, .pointer (some ⟨b1, 0, none⟩)), (0, tval t), (2, .slice aa n ca), (3, .slice ab n cb)] a ∧ Sat F0 W (r6 :: (blk b3 [.int .u64 ((dg 0 (mq (dot px py k)) : Nat) : Int), .int .u64 ((dg 1 (mq (dot px py k)) : Nat) : Int), .int .u64 ((dg 2 (mq (dot px py k)) : Nat) : Int), .int .u64 ((dg 3 (mq (dot px py k)) : Nat) : Int)] 56) :: (blk b2 [.int .u64 0, .int .u64 0, .int .u64 0, .int .u64 0] 56) :: (blk b1 (fieldL s) 120) :: M) ((lst 4 (.slice aa n ca) n (en vq (fun i => mq (px i)) n)) :: (lst 4 (.slice ab n cb) n (en vq (fun i => mq (py i)) n)) :: R) w ∧ okL [blk b1 (fieldL s) 120, lst 4 (.slice aa n ca) n (en vq (fun i => mq (px i)) n), lst 4 (.slice ab n cb) n (en vq (fun i => mq (py i)) n)] w) ?_ ?_
  ·
   intro hJ4095
   refine d_w 0 1 hk hL rfl (fun w hL => w_ldA rfl ty120 (.blk (n := 14) (hL.at 0 rfl) rfl) rfl) fun a hk => ?_
   refine d_w 2 5 hk hL rfl (fun w hL => w_ldA rfl ty120 (.blk (n := 14) (hL.at 0 rfl) rfl) rfl) fun a hk => ?_
   refine d_w 3 13 hk hL rfl (fun w hL => w_mv rfl) fun a hk => ?_
   refine d_w 4 29 hk hL rfl (fun w hL => w_mv rfl) fun a hk => ?_
   refine d_w 5 61 hk hL rfl (fun w hL => w_iaL (k := k) rfl rfl Tryz.underlying51 ty56 (hL.at 1 rfl) (by omega) (by omega)) fun a hk => ?_
   refine d_w 6 125 hk hL rfl (fun w hL => w_ldv (z := mq (px k)) rfl ty56 (lstq (k := k) (hL.at 1 rfl) (by omega) (en_chunk vq_len (by omega)))) fun a hk => ?_
   refine d_w 7 253 hk hL rfl (fun w hL => w_mv rfl) fun a hk => ?_
   refine d_w 8 509 hk hL rfl (fun w hL => w_mv rfl) fun a hk => ?_
   refine d_w 9 1021 hk hL rfl (fun w hL => w_iaL (k := k) rfl rfl Tryz.underlying51 ty56 (hL.at 2 rfl) (by omega) (by omega)) fun a hk => ?_
   refine d_w 10 2045 hk hL rfl (fun w hL => w_ldv (z := mq (py k)) rfl ty56 (lstq (k := k) (hL.at 2 rfl) (by omega) (en_chunk vq_len (by omega)))) fun a hk => ?_
   refine d_2 1 11 2047 4093 rfl rfl (by kernel_rfl) (fun K hK => ?_) (fun K hK => ?_)
   ·
    refine q_v hk (w_ldv (z := mq (dot px py k)) rfl ty56 (.blk (n := 4) (hs.mi 1 rfl) rfl)) fun a hk => ?_
    have hL := okL.cons (hs.mi 3 rfl) (okL.cons (hs.ri 0 rfl) (okL.cons (hs.ri 1 rfl) okL.nil))
    refine c_end (x_t (hK _ _ hL ?_))
    clear hK K
    refine d_1 11 4095 rfl (by kernel_rfl) fun K hK => ?_
    refine q_call (caps := []) hk rfl rfl Tryz.func120 fo120 rfl rfl (zmul_c (x := (px k)) (y := (py k)) _ rfl rfl) ?_
    rintro _ w ⟨rfl, hb⟩
    have hs := hs.below hb
    refine ⟨_, rfl, fun a hk => ?_⟩
    have hL := okL.cons (hs.mi 3 rfl) (okL.cons (hs.ri 0 rfl) (okL.cons (hs.ri 1 rfl) okL.nil))
    refine c_end (x_t (hK _ _ hL ?_))
    clear hK K
    have hL := okL.cons (hs.mi 3 rfl) (okL.cons (hs.ri 0 rfl) (okL.cons (hs.ri 1 rfl) okL.nil))
    exact hJ4095 _ _ ⟨hk.k rfl (hk.k rfl (hk.k rfl (hk.k rfl (hk.k rfl (hk.k rfl (hk.k rfl (hk.k rfl (hk.k rfl (hk.k rfl (hk.k rfl (hk.k rfl (hk.k rfl (hk.k rfl (hk.k rfl (hk.k rfl (hk.k rfl (hk.k rfl (hk.k rfl (hk.k rfl (hk.k rfl (hk.k rfl (hk.k rfl (hk.k rfl (hk.k rfl (hk.k rfl (hk.k rfl hk.nil)))))))))))))))))))))))))), hs, hL⟩
   ·
    refine q_call (caps := []) hk rfl rfl Tryz.func120 fo120 rfl rfl (zmul_c (x := (px k)) (y := (py k)) _ rfl rfl) ?_
    rintro _ w ⟨rfl, hb⟩
    have hs := hs.below hb
    refine ⟨_, rfl, fun a hk => ?_⟩
    have hL := okL.cons (hs.mi 3 rfl) (okL.cons (hs.ri 0 rfl) (okL.cons (hs.ri 1 rfl) okL.nil))
    refine c_end (x_t (hK _ _ hL ?_))
    clear hK K
    refine d_1 1 4095 rfl (by kernel_rfl) fun K hK => ?_
    refine q_v hk (w_ldv (z := mq (dot px py k)) rfl ty56 (.blk (n := 4) (hs.mi 1 rfl) rfl)) fun a hk => ?_
    have hL := okL.cons (hs.mi 3 rfl) (okL.cons (hs.ri 0 rfl) (okL.cons (hs.ri 1 rfl) okL.nil))
    refine c_end (x_t (hK _ _ hL ?_))
    clear hK K
    have hL := okL.cons (hs.mi 3 rfl) (okL.cons (hs.ri 0 rfl) (okL.cons (hs.ri 1 rfl) okL.nil))
    exact hJ4095 _ _ ⟨hk.k rfl (hk.k rfl (hk.k rfl (hk.k rfl (hk.k rfl (hk.k rfl (hk.k rfl (hk.k rfl (hk.k rfl (hk.k rfl (hk.k rfl (hk.k rfl (hk.k rfl (hk.k rfl (hk.k rfl (hk.k rfl (hk.k rfl (hk.k rfl (hk.k rfl (hk.k rfl (hk.k rfl (hk.k rfl (hk.k rfl (hk.k rfl (hk.k rfl (hk.k rfl (hk.k rfl hk.nil)))))))))))))))))))))))))), hs, hL⟩
  ·
   rintro a w ⟨hk, hs, hL⟩
   refine d_1 12 8191 rfl (by kernel_rfl) fun K hK => ?_
   refine q_call (caps := []) hk rfl rfl Tryz.func121 fo121 rfl rfl (zadd_c (x := (dot px py k)) (y := ((px k) * (py k))) _ rfl rfl) ?_
   rintro _ w ⟨rfl, hb⟩
   have hs := hs.below hb
   refine ⟨_, rfl, fun a hk => ?_⟩
   have hL := okL.cons (hs.mi 3 rfl) (okL.cons (hs.ri 0 rfl) (okL.cons (hs.ri 1 rfl) okL.nil))
   refine c_end (x_t (hK _ _ hL ?_))
   clear hK K
   refine d_1 13 16383 rfl (by kernel_rfl) fun K hK => ?_
   have hs := hs.up1
   refine q_sto (o := 0) (cs := [.int .u64 ((dg 0 (mq ((dot px py k) + ((px k) * (py k)))) : Nat) : Int), .int .u64 ((dg 1 (mq ((dot px py k) + ((px k) * (py k)))) : Nat) : Int), .int .u64 ((dg 2 (mq ((dot px py k) + ((px k) * (py k)))) : Nat) : Int), .int .u64 ((dg 3 (mq ((dot px py k) + ((px k) * (py k)))) : Nat) : Int)]) (vs' := [.int .u64 ((dg 0 (mq ((dot px py k) + ((px k) * (py k)))) : Nat) : Int), .int .u64 ((dg 1 (mq ((dot px py k) + ((px k) * (py k)))) : Nat) : Int), .int .u64 ((dg 2 (mq ((dot px py k) + ((px k) * (py k)))) : Nat) : Int), .int .u64 ((dg 3 (mq ((dot px py k) + ((px k) * (py k)))) : Nat) : Int)]) hk hs rfl rfl rfl ty56 rfl rfl rfl rfl rfl rfl fun w hs => ?_
   have hL := okL.cons (hs.mi 3 rfl) (okL.cons (hs.ri 0 rfl) (okL.cons (hs.ri 1 rfl) okL.nil))
   refine c_end (x_t (hK _ _ hL ?_))
   clear hK K
   refine d_end (by kernel_rfl) ?_
   refine (x_b (x_t ?_))
   refine wR ?_
   refine q_v hk (w_add rfl rfl (wr64 (by omega) (by omega))) fun a hk => ?_
   refine q_v hk (w_mv rfl) fun a hk => ?_
   refine c_end (x_t ?_)
   rw [coef_next] at hT
   have hs := hs.up1
   have hs := hs.up3
   have hs := hs.up3
   have hs := hs.up3
   exact ⟨k + 1, ⟨_, (by omega), hT, hk.k rfl (hk.k rfl (hk.k rfl (hk.k rfl (hk.k rfl (hk.k rfl (hk.k rfl (hk.k rfl (hk.k rfl hk.nil)))))))), hs⟩, by omega⟩
 ·
  refine q_v hk (w_lt rfl rfl (decide_eq_false hc4)) fun a hk => ?_
  refine c_end (x_t (wS ?_))
  refine c_F hk rfl ?_
  refine (wpIn_exit (x_te (x_te (x_be ?_))))
  refine (x_t ?_)
  refine wS (wR ?_)
  refine q_v hk (w_ldv (z := mq (dot px py k)) rfl ty56 (.blk (n := 4) (hs.mi 0 rfl) rfl)) fun a hk => ?_
  have hs := hs.up1
  refine q_sto (o := 0) (cs := [.int .u64 ((dg 0 (mq (dot px py k)) : Nat) : Int), .int .u64 ((dg 1 (mq (dot px py k)) : Nat) : Int), .int .u64 ((dg 2 (mq (dot px py k)) : Nat) : Int), .int .u64 ((dg 3 (mq (dot px py k)) : Nat) : Int)]) (vs' := [.int .u64 ((dg 0 (mq (dot px py k)) : Nat) : Int), .int .u64 ((dg 1 (mq (dot px py k)) : Nat) : Int), .int .u64 ((dg 2 (mq (dot px py k)) : Nat) : Int), .int .u64 ((dg 3 (mq (dot px py k)) : Nat) : Int)]) hk hs rfl rfl rfl ty56 rfl rfl rfl rfl rfl rfl fun w hs => ?_
  refine q_v hk (w_as rfl) fun a hk => ?_
  refine c_end (x_t ?_)
  refine (wpIn_ret ?_)
  refine c_retG (vs := [vec (mq (dot px py k)), .int .i64 0]) hk rfl ⟨⟨_, rfl, lv_A ty56 (.blk (n := 4) (hs.mi 0 rfl) rfl) rfl⟩, rfl, trivial⟩ rfl ?_
  have hs := hs.drop
  have hs := hs.drop
  have hs := hs.drop
  have hs := hs.toR (R' := R) (fun r hr => .of (by simp [hr]))
  have hkn : k = n := by omega
  rw [hkn] at hT ⊢
  exact ⟨_, rfl, hT, hs⟩
end Go.Proofs.YtdnkkbmpefhbjaaGreatDoor
namespace Go.Proofs.YtdnkkbmpefhbjaaGreatDoor
set_option linter.all false
open Go Go.RowKit Alg
def ita {s : Bool} (po pq : Nat → Zp s) (c : Zp s) (k i : Nat) : Nat := if i < k then mq (po i + c * pq i) else mq (po i)
section
variable {s : Bool} {po pq : Nat → Zp s} {c : Zp s} {n k : Nat}
theorem ita_zero : en vq (fun i => mq (po i)) n = en vq (ita po pq c 0) n := en_congr fun i _ => by unfold ita; rw [if_neg (Nat.not_lt_zero i)]
theorem ita_at : ita po pq c k k = mq (po k) := if_neg (Nat.lt_irrefl k)
theorem ita_step : en vq (fun i => if i = k then mq (po k + c * pq k) else ita po pq c k i) n = en vq (ita po pq c (k + 1)) n := en_congr fun i _ => by
  unfold ita
  by_cases h : i = k
  · subst h; rw [if_pos rfl, if_pos (Nat.lt_succ_self _)]
  · rw [if_neg h]
    by_cases l : i < k
    · rw [if_pos l, if_pos (by omega)]
    · rw [if_neg l, if_neg (by omega)]
theorem ita_end : en vq (ita po pq c n) n = en vq (fun i => mq (po i + c * pq i)) n := en_congr fun i hi => by unfold ita; rw [if_pos hi]
end
theorem pairT_next {E : List Ev} {i : Int} {k : Nat} : E ++ upE 0 ((k : Nat) : Int) (pairE true i) ++ [(3, i, ((k : Nat) : Int))] = E ++ upE 0 ((k + 1 : Nat) : Int) (pairE true i) := by
  have e := upE_succ (F := pairE true i) (fr := 0) (x := (k : Int)) (by omega)
  have p : pairE true i (k : Int) = [(3, i, (k : Int))] := by unfold pairE; rw [if_neg (by simp)]
  rw [p] at e
  rw [List.append_assoc, e]
  rfl
theorem pairT_len {i : Int} {n : Nat} : (upE 0 (n : Int) (pairE true i)).length ≤ n := by
  have := upE_len (fr := 0) (to := (n : Int)) (F := pairE true i) (B := 1) (fun k => by unfold pairE; split <;> simp)
  omega
def pairT (n : Nat) (i : Int) : List Ev := upE 0 (n : Int) (pairE true i)
theorem pairTs_len {n u : Nat} : (upE 0 (u : Int) (pairT n)).length ≤ u * n := by
  have := upE_len (fr := 0) (to := (u : Int)) (F := pairT n) (B := n) (fun k => pairT_len)
  simpa using this
theorem pt_row {E : List Ev} {n u : Nat} : E ++ upE 0 (u : Int) (pairT n) ++ upE 0 (n : Int) (pairE true ((u : Nat) : Int)) = E ++ upE 0 ((u + 1 : Nat) : Int) (pairT n) := by
  have e := upE_succ (F := pairT n) (fr := 0) (x := (u : Int)) (by omega)
  rw [List.append_assoc, show upE 0 (n : Int) (pairE true (u : Int)) = pairT n (u : Int) from rfl, e]
  rfl
/-- The polynomial after u points. -/
def itp {s : Bool} (x y : Nat → Zp s) (n : Nat) : Nat → Nat → Zp s
  | 0 => fun _ => 0
  | u + 1 => fun k => itp x y n u k + wgt x n u * y u * Hn (mst x n) (n + 1) (x u) (n + 1 - 1 - k)
theorem itp_zero {s : Bool} {x y : Nat → Zp s} {n m : Nat} : en vq (fun _ => 0) m = en vq (fun j => mq (itp x y n 0 j)) m := en_congr fun i _ => by show 0 = mq (0 : Zp s); rw [mq_zero]
theorem iadd_m {F0 : Nat → Prop} {W : World} {M R : List Res} (s : Bool) (n i0 bf bw by' bo bt wb ob qb yc : Nat) (ya : Option Addr) (pw' py po pq : Nat → Zp s) (t : Option Nat) (evs : List Ev) (r : Res) (w0 : World) (hs : Sat F0 W (r :: (blk ob (en vq (fun i => mq (po i)) n) 56) :: M) R w0) (hF : HasR (rall [blk bf (fieldL s) 120, blk bw [.slice (some ⟨wb, 0, none⟩) n n] 51, lst 4 (.slice (some ⟨wb, 0, none⟩) n n) n (en vq (fun i => mq (pw' i)) n), blk by' [.slice ya n yc] 51, lst 4 (.slice ya n yc) n (en vq (fun i => mq (py i)) n), blk bo [.slice (some ⟨ob, 0, none⟩) n n] 51, blk bt [tval t] 60]) R) (hQ : HasR (lst 4 (.slice (some ⟨qb, 0, none⟩) (n + 1 - 1) (n + 1 - 1)) (n + 1 - 1) (en vq (fun i => mq (pq i)) (n + 1 - 1))) R) (hT : TapeIs t evs r) (hi : i0 < n) (hn : n ≤ 1000) (he : evs.length ≤ 100000000) : Calls Tryz.prog 128 [.int .i64 ((i0 : Nat) : Int), .slice (some ⟨qb, 0, none⟩) (n + 1 - 1) (n + 1 - 1), .pointer (some ⟨bf, 0, none⟩), .pointer (some ⟨bw, 0, none⟩), .pointer (some ⟨by', 0, none⟩), .pointer (some ⟨bo, 0, none⟩), .pointer (some ⟨bt, 0, none⟩)].toArray w0 fun e w => ∃ v r, e = .returned v ∧ TapeIs t (evs ++ upE 0 (n : Int) (pairE true ((i0 : Nat) : Int))) r ∧ Sat F0 W (r :: blk ob (en vq (fun i => mq (po i + (pw' i0 * py i0) * pq i)) n) 56 :: M) R w := by
 refine c_enter (args := [.int .i64 ((i0 : Nat) : Int), .slice (some ⟨qb, 0, none⟩) (n + 1 - 1) (n + 1 - 1), .pointer (some ⟨bf, 0, none⟩), .pointer (some ⟨bw, 0, none⟩), .pointer (some ⟨by', 0, none⟩), .pointer (some ⟨bo, 0, none⟩), .pointer (some ⟨bt, 0, none⟩)]) Tryz.func128 rfl rfl rfl fun a hk => ?_
 refine wS ?_
 have hL := okL.cons ((hF.pi 0 rfl).at_ hs) (okL.cons ((hF.pi 1 rfl).at_ hs) (okL.cons ((hF.pi 2 rfl).at_ hs) (okL.cons ((hF.pi 3 rfl).at_ hs) (okL.cons ((hF.pi 4 rfl).at_ hs) okL.nil))))
 refine d_begin _ 12 (by kernel_rfl) rfl hs hL fun w hs hL => ?_
 refine d_join (n2 := 1) 2047 (fun a w => ∃ (b1_10 : Nat), Kn [] 47 [(9, .pointer (some ⟨b1_10, 0, none⟩)), (20, vec (mq ((pw' i0) * (py i0)))), (19, vec (mq (py i0))), (18, .pointer (some ((adq ya).add (i0 * 4)))), (17, .int .i64 ((i0 : Nat) : Int)), (16, .slice ya n yc), (15, vec (mq (pw' i0))), (14, .pointer (some ((adq (some ⟨wb, 0, none⟩)).add (i0 * 4)))), (13, .int .i64 ((i0 : Nat) : Int)), (12, .slice (some ⟨wb, 0, none⟩) n n), (11, fieldV s), (0, .int .i64 ((i0 : Nat) : Int)), (1, .slice (some ⟨qb, 0, none⟩) (n + 1 - 1) (n + 1 - 1)), (2, .pointer (some ⟨bf, 0, none⟩)), (3, .pointer (some ⟨bw, 0, none⟩)), (4, .pointer (some ⟨by', 0, none⟩)), (5, .pointer (some ⟨bo, 0, none⟩)), (6, .pointer (some ⟨bt, 0, none⟩))] a ∧ Sat F0 W ((blk b1_10 [.int .u64 0, .int .u64 0, .int .u64 0, .int .u64 0] 56) :: r :: (blk ob (en vq (fun i => mq (po i)) n) 56) :: M) R w ∧ okL [blk bf (fieldL s) 120, blk bw [.slice (some ⟨wb, 0, none⟩) n n] 51, lst 4 (.slice (some ⟨wb, 0, none⟩) n n) n (en vq (fun i => mq (pw' i)) n), blk by' [.slice ya n yc] 51, lst 4 (.slice ya n yc) n (en vq (fun i => mq (py i)) n)] w) ?_ ?_
 ·
  intro hJ2047
  refine d_w 0 1 hk hL rfl (fun w hL => w_ldA rfl ty120 (.blk (n := 14) (hL.at 0 rfl) rfl) rfl) fun a hk => ?_
  refine d_w 1 3 hk hL rfl (fun w hL => w_ld1 rfl ty51 (.blk (n := 1) (hL.at 1 rfl) rfl)) fun a hk => ?_
  refine d_w 2 7 hk hL rfl (fun w hL => w_mv rfl) fun a hk => ?_
  refine d_w 3 15 hk hL rfl (fun w hL => w_iaL (k := i0) rfl rfl Tryz.underlying51 ty56 (hL.at 2 rfl) (by omega) (by omega)) fun a hk => ?_
  refine d_w 4 31 hk hL rfl (fun w hL => w_ldv (z := mq (pw' i0)) rfl ty56 (lstq (k := i0) (hL.at 2 rfl) (by omega) (en_chunk vq_len (by omega)))) fun a hk => ?_
  refine d_w 5 63 hk hL rfl (fun w hL => w_ld1 rfl ty51 (.blk (n := 1) (hL.at 3 rfl) rfl)) fun a hk => ?_
  refine d_w 6 127 hk hL rfl (fun w hL => w_mv rfl) fun a hk => ?_
  refine d_w 7 255 hk hL rfl (fun w hL => w_iaL (k := i0) rfl rfl Tryz.underlying51 ty56 (hL.at 4 rfl) (by omega) (by omega)) fun a hk => ?_
  refine d_w 8 511 hk hL rfl (fun w hL => w_ldv (z := mq (py i0)) rfl ty56 (lstq (k := i0) (hL.at 4 rfl) (by omega) (en_chunk vq_len (by omega)))) fun a hk => ?_
  refine d_2 9 10 1023 1535 rfl rfl (by kernel_rfl) (fun K hK => ?_) (fun K hK => ?_)
  ·
   refine q_call (caps := []) hk rfl rfl Tryz.func120 fo120 rfl rfl (zmul_c (x := (pw' i0)) (y := (py i0)) _ rfl rfl) ?_
   rintro _ w ⟨rfl, hb⟩
   have hs := hs.below hb
   refine ⟨_, rfl, fun a hk => ?_⟩
   have hL := okL.cons ((hF.pi 0 rfl).at_ hs) (okL.cons ((hF.pi 1 rfl).at_ hs) (okL.cons ((hF.pi 2 rfl).at_ hs) (okL.cons ((hF.pi 3 rfl).at_ hs) (okL.cons ((hF.pi 4 rfl).at_ hs) okL.nil))))
   refine c_end (x_t (hK _ _ hL ?_))
   clear hK K
   refine d_1 10 2047 rfl (by kernel_rfl) fun K hK => ?_
   refine q_alc (vs := [.int .u64 0, .int .u64 0, .int .u64 0, .int .u64 0]) hk hs zr56 rfl rfl rfl fun b1_10 w a hk hs => ?_
   have hL := okL.cons ((hF.pi 0 rfl).at_ hs) (okL.cons ((hF.pi 1 rfl).at_ hs) (okL.cons ((hF.pi 2 rfl).at_ hs) (okL.cons ((hF.pi 3 rfl).at_ hs) (okL.cons ((hF.pi 4 rfl).at_ hs) okL.nil))))
   refine c_end (x_t (hK _ _ hL ?_))
   clear hK K
   have hL := okL.cons ((hF.pi 0 rfl).at_ hs) (okL.cons ((hF.pi 1 rfl).at_ hs) (okL.cons ((hF.pi 2 rfl).at_ hs) (okL.cons ((hF.pi 3 rfl).at_ hs) (okL.cons ((hF.pi 4 rfl).at_ hs) okL.nil))))
   exact hJ2047 _ _ ⟨_, hk.k rfl (hk.k rfl (hk.k rfl (hk.k rfl (hk.k rfl (hk.k rfl (hk.k rfl (hk.k rfl (hk.k rfl (hk.k rfl (hk.k rfl (hk.k rfl (hk.k rfl (hk.k rfl (hk.k rfl (hk.k rfl (hk.k rfl (hk.k rfl hk.nil))))))))))))))))), hs, hL⟩
  ·
   refine q_alc (vs := [.int .u64 0, .int .u64 0, .int .u64 0, .int .u64 0]) hk hs zr56 rfl rfl rfl fun b1_10 w a hk hs => ?_
   have hL := okL.cons ((hF.pi 0 rfl).at_ hs) (okL.cons ((hF.pi 1 rfl).at_ hs) (okL.cons ((hF.pi 2 rfl).at_ hs) (okL.cons ((hF.pi 3 rfl).at_ hs) (okL.cons ((hF.pi 4 rfl).at_ hs) okL.nil))))
   refine c_end (x_t (hK _ _ hL ?_))
   clear hK K
   refine d_1 9 2047 rfl (by kernel_rfl) fun K hK => ?_
   refine q_call (caps := []) hk rfl rfl Tryz.func120 fo120 rfl rfl (zmul_c (x := (pw' i0)) (y := (py i0)) _ rfl rfl) ?_
   rintro _ w ⟨rfl, hb⟩
   have hs := hs.below hb
   refine ⟨_, rfl, fun a hk => ?_⟩
   have hL := okL.cons ((hF.pi 0 rfl).at_ hs) (okL.cons ((hF.pi 1 rfl).at_ hs) (okL.cons ((hF.pi 2 rfl).at_ hs) (okL.cons ((hF.pi 3 rfl).at_ hs) (okL.cons ((hF.pi 4 rfl).at_ hs) okL.nil))))
   refine c_end (x_t (hK _ _ hL ?_))
   clear hK K
   have hL := okL.cons ((hF.pi 0 rfl).at_ hs) (okL.cons ((hF.pi 1 rfl).at_ hs) (okL.cons ((hF.pi 2 rfl).at_ hs) (okL.cons ((hF.pi 3 rfl).at_ hs) (okL.cons ((hF.pi 4 rfl).at_ hs) okL.nil))))
   exact hJ2047 _ _ ⟨_, hk.k rfl (hk.k rfl (hk.k rfl (hk.k rfl (hk.k rfl (hk.k rfl (hk.k rfl (hk.k rfl (hk.k rfl (hk.k rfl (hk.k rfl (hk.k rfl (hk.k rfl (hk.k rfl (hk.k rfl (hk.k rfl (hk.k rfl (hk.k rfl hk.nil))))))))))))))))), hs, hL⟩
 ·
  rintro a w ⟨b1_10, hk, hs, hL⟩
  refine d_1 11 4095 rfl (by kernel_rfl) fun K hK => ?_
  refine q_sto (o := 0) (cs := [.int .u64 ((dg 0 (mq ((pw' i0) * (py i0))) : Nat) : Int), .int .u64 ((dg 1 (mq ((pw' i0) * (py i0))) : Nat) : Int), .int .u64 ((dg 2 (mq ((pw' i0) * (py i0))) : Nat) : Int), .int .u64 ((dg 3 (mq ((pw' i0) * (py i0))) : Nat) : Int)]) (vs' := [.int .u64 ((dg 0 (mq ((pw' i0) * (py i0))) : Nat) : Int), .int .u64 ((dg 1 (mq ((pw' i0) * (py i0))) : Nat) : Int), .int .u64 ((dg 2 (mq ((pw' i0) * (py i0))) : Nat) : Int), .int .u64 ((dg 3 (mq ((pw' i0) * (py i0))) : Nat) : Int)]) hk hs rfl rfl rfl ty56 rfl rfl rfl rfl rfl rfl fun w hs => ?_
  have hL := okL.cons ((hF.pi 0 rfl).at_ hs) (okL.cons ((hF.pi 1 rfl).at_ hs) (okL.cons ((hF.pi 2 rfl).at_ hs) (okL.cons ((hF.pi 3 rfl).at_ hs) (okL.cons ((hF.pi 4 rfl).at_ hs) okL.nil))))
  refine c_end (x_t (hK _ _ hL ?_))
  clear hK K
  refine d_end (by kernel_rfl) ?_
  refine (x_t ?_)
  refine wS (wR ?_)
  refine q_v hk (w_ld1 rfl ty51 (.blk (n := 1) ((hF.pi 5 rfl).at_ hs) rfl)) fun a hk => ?_
  refine q_v hk (w_len rfl Tryz.underlying51) fun a hk => ?_
  refine q_v hk (w_mv rfl) fun a hk => ?_
  refine c_end (x_t ?_)
  refine wpIn_block ?_
  have hs := hs.up2
  have hs := hs.rw0 (congrArg (fun q => blk ob q 56) (ita_zero (po := po) (pq := pq) (c := (pw' i0 * py i0))))
  refine c_loop (α := Nat) (fun k a w => ∃ (r : Res), k ≤ n ∧ TapeIs t (evs ++ upE 0 ((k : Nat) : Int) (pairE true ((i0 : Nat) : Int))) r ∧ Kn [] 47 [(23, .int .i64 ((k : Nat) : Int)), (22, .int .i64 ((n : Nat) : Int)), (9, .pointer (some ⟨b1_10, 0, none⟩)), (0, .int .i64 ((i0 : Nat) : Int)), (1, .slice (some ⟨qb, 0, none⟩) (n + 1 - 1) (n + 1 - 1)), (2, .pointer (some ⟨bf, 0, none⟩)), (5, .pointer (some ⟨bo, 0, none⟩)), (6, .pointer (some ⟨bt, 0, none⟩))] a ∧ Sat F0 W ((blk ob (en vq (fun i => ita po pq (pw' i0 * py i0) k i) n) 56) :: (blk b1_10 [.int .u64 ((dg 0 (mq ((pw' i0) * (py i0))) : Nat) : Int), .int .u64 ((dg 1 (mq ((pw' i0) * (py i0))) : Nat) : Int), .int .u64 ((dg 2 (mq ((pw' i0) * (py i0))) : Nat) : Int), .int .u64 ((dg 3 (mq ((pw' i0) * (py i0))) : Nat) : Int)] 56) :: r :: M) R w) (fun k => n - k) 0 ?_ ?_
  · exact ⟨_, (by omega), (by rw [upE_nil (by omega), List.append_nil]; exact hT), hk.k rfl (hk.k rfl (hk.k rfl (hk.k rfl (hk.k rfl (hk.k rfl (hk.k rfl (hk.k rfl hk.nil))))))), hs⟩
  rintro k a w ⟨r, hf0, hf1, hk, hs⟩
  have hT := hf1
  have hlk := pairT_len (n := k) (i := ((i0 : Nat) : Int))
  refine wS (wR ?_)
  rcases Classical.em (((k : Nat) : Int) < ((n : Nat) : Int)) with hc1 | hc1
  ·
   refine q_v hk (w_lt rfl rfl (decide_eq_true hc1)) fun a hk => ?_
   refine c_end (x_t (wS ?_))
   refine c_T hk rfl ?_
   refine (wpIn_skip (x_t ?_))
   refine wS ?_
   refine wpIn_block ?_
   refine wS (wR ?_)
   refine q_v hk (w_mv rfl) fun a hk => ?_
   refine q_v hk (w_as rfl) fun a hk => ?_
   refine c_end (x_t (wS (wR ?_)))
   refine q_v hk (w_ld1 rfl ty60 (.blk (n := 1) ((hF.pi 6 rfl).at_ hs) rfl)) fun a hk => ?_
   refine q_v hk (w_mv rfl) fun a hk => ?_
   refine q_v hk (w_mv rfl) fun a hk => ?_
   have hs := hs.up2
   refine q_call (caps := []) hk rfl rfl Tryz.func61 fo61 rfl rfl (note_m t 3 ((i0 : Nat) : Int) ((k : Nat) : Int) (evs ++ upE 0 ((k : Nat) : Int) (pairE true ((i0 : Nat) : Int))) _ _ hT hs (by simp only [List.length_append]; omega)) ?_
   rintro _ w ⟨v2, r3, rfl, ht4, hs⟩
   have hT := ht4
   refine ⟨_, rfl, fun a hk => ?_⟩
   refine c_end (x_t ?_)
   have hL := okL.cons ((hF.pi 5 rfl).at_ hs) (okL.cons ((hF.pi 0 rfl).at_ hs) (okL.cons (hs.mi 2 rfl) (okL.cons (hQ.at_ hs) okL.nil)))
   refine d_begin _ 17 (by kernel_rfl) rfl hs hL fun w hs hL => ?_
   refine d_join (n2 := 3) 16383 (fun a w => Kn [] 47 [(43, vec (mq (((pw' i0) * (py i0)) * (pq k)))), (36, vec (mq (po k))), (35, .pointer (some ((adq (some ⟨ob, 0, none⟩)).add (k * 4)))), (42, vec (mq (pq k))), (41, .pointer (some ((adq (some ⟨qb, 0, none⟩)).add (k * 4)))), (40, .int .i64 ((k : Nat) : Int)), (39, .slice (some ⟨qb, 0, none⟩) (n + 1 - 1) (n + 1 - 1)), (38, vec (mq ((pw' i0) * (py i0)))), (37, fieldV s), (34, .int .i64 ((k : Nat) : Int)), (33, .slice (some ⟨ob, 0, none⟩) n n), (32, fieldV s), (31, .int .i64 ((k : Nat) : Int)), (30, .slice (some ⟨ob, 0, none⟩) n n), (29, v2), (28, .int .i64 ((k : Nat) : Int)), (27, .int .i64 ((i0 : Nat) : Int)), (26, tval t), (10, .int .i64 ((k : Nat) : Int)), (25, .int .i64 ((k : Nat) : Int)), (24, .bool true), (23, .int .i64 ((k : Nat) : Int)), (22, .int .i64 ((n : Nat) : Int)), (9, .pointer (some ⟨b1_10, 0, none⟩)), (0, .int .i64 ((i0 : Nat) : Int)), (1, .slice (some ⟨qb, 0, none⟩) (n + 1 - 1) (n + 1 - 1)), (2, .pointer (some ⟨bf, 0, none⟩)), (5, .pointer (some ⟨bo, 0, none⟩)), (6, .pointer (some ⟨bt, 0, none⟩))] a ∧ Sat F0 W (r3 :: (blk ob (en vq (fun i => ita po pq (pw' i0 * py i0) k i) n) 56) :: (blk b1_10 [.int .u64 ((dg 0 (mq ((pw' i0) * (py i0))) : Nat) : Int), .int .u64 ((dg 1 (mq ((pw' i0) * (py i0))) : Nat) : Int), .int .u64 ((dg 2 (mq ((pw' i0) * (py i0))) : Nat) : Int), .int .u64 ((dg 3 (mq ((pw' i0) * (py i0))) : Nat) : Int)] 56) :: M) R w ∧ okL [blk bo [.slice (some ⟨ob, 0, none⟩) n n] 51, blk bf (fieldL s) 120, blk b1_10 [.int .u64 ((dg 0 (mq ((pw' i0) * (py i0))) : Nat) : Int), .int .u64 ((dg 1 (mq ((pw' i0) * (py i0))) : Nat) : Int), .int .u64 ((dg 2 (mq ((pw' i0) * (py i0))) : Nat) : Int), .int .u64 ((dg 3 (mq ((pw' i0) * (py i0))) : Nat) : Int)] 56, lst 4 (.slice (some ⟨qb, 0, none⟩) (n + 1 - 1) (n + 1 - 1)) (n + 1 - 1) (en vq (fun i => mq (pq i)) (n + 1 - 1))] w) ?_ ?_
   ·
    intro hJ16383
    refine d_join (n2 := 4) 16319 (fun a w => Kn [] 47 [(43, vec (mq (((pw' i0) * (py i0)) * (pq k)))), (35, .pointer (some ((adq (some ⟨ob, 0, none⟩)).add (k * 4)))), (42, vec (mq (pq k))), (41, .pointer (some ((adq (some ⟨qb, 0, none⟩)).add (k * 4)))), (40, .int .i64 ((k : Nat) : Int)), (39, .slice (some ⟨qb, 0, none⟩) (n + 1 - 1) (n + 1 - 1)), (38, vec (mq ((pw' i0) * (py i0)))), (37, fieldV s), (34, .int .i64 ((k : Nat) : Int)), (33, .slice (some ⟨ob, 0, none⟩) n n), (32, fieldV s), (31, .int .i64 ((k : Nat) : Int)), (30, .slice (some ⟨ob, 0, none⟩) n n), (29, v2), (28, .int .i64 ((k : Nat) : Int)), (27, .int .i64 ((i0 : Nat) : Int)), (26, tval t), (10, .int .i64 ((k : Nat) : Int)), (25, .int .i64 ((k : Nat) : Int)), (24, .bool true), (23, .int .i64 ((k : Nat) : Int)), (22, .int .i64 ((n : Nat) : Int)), (9, .pointer (some ⟨b1_10, 0, none⟩)), (0, .int .i64 ((i0 : Nat) : Int)), (1, .slice (some ⟨qb, 0, none⟩) (n + 1 - 1) (n + 1 - 1)), (2, .pointer (some ⟨bf, 0, none⟩)), (5, .pointer (some ⟨bo, 0, none⟩)), (6, .pointer (some ⟨bt, 0, none⟩))] a ∧ Sat F0 W (r3 :: (blk ob (en vq (fun i => ita po pq (pw' i0 * py i0) k i) n) 56) :: (blk b1_10 [.int .u64 ((dg 0 (mq ((pw' i0) * (py i0))) : Nat) : Int), .int .u64 ((dg 1 (mq ((pw' i0) * (py i0))) : Nat) : Int), .int .u64 ((dg 2 (mq ((pw' i0) * (py i0))) : Nat) : Int), .int .u64 ((dg 3 (mq ((pw' i0) * (py i0))) : Nat) : Int)] 56) :: M) R w ∧ okL [blk bo [.slice (some ⟨ob, 0, none⟩) n n] 51, blk bf (fieldL s) 120, blk b1_10 [.int .u64 ((dg 0 (mq ((pw' i0) * (py i0))) : Nat) : Int), .int .u64 ((dg 1 (mq ((pw' i0) * (py i0))) : Nat) : Int), .int .u64 ((dg 2 (mq ((pw' i0) * (py i0))) : Nat) : Int), .int .u64 ((dg 3 (mq ((pw' i0) * (py i0))) : Nat) : Int)] 56, lst 4 (.slice (some ⟨qb, 0, none⟩) (n + 1 - 1) (n + 1 - 1)) (n + 1 - 1) (en vq (fun i => mq (pq i)) (n + 1 - 1))] w) ?_ ?_
    ·
     intro hJ16319
     refine d_w 0 1 hk hL rfl (fun w hL => w_ld1 rfl ty51 (.blk (n := 1) (hL.at 0 rfl) rfl)) fun a hk => ?_
     refine d_w 1 3 hk hL rfl (fun w hL => w_mv rfl) fun a hk => ?_
     refine d_w 2 7 hk hL rfl (fun w hL => w_ldA rfl ty120 (.blk (n := 14) (hL.at 1 rfl) rfl) rfl) fun a hk => ?_
     refine d_w 3 15 hk hL rfl (fun w hL => w_ld1 rfl ty51 (.blk (n := 1) (hL.at 0 rfl) rfl)) fun a hk => ?_
     refine d_w 4 31 hk hL rfl (fun w hL => w_mv rfl) fun a hk => ?_
     refine d_w 7 159 hk hL rfl (fun w hL => w_ldA rfl ty120 (.blk (n := 14) (hL.at 1 rfl) rfl) rfl) fun a hk => ?_
     refine d_w 8 415 hk hL rfl (fun w hL => w_ldv (z := mq ((pw' i0) * (py i0))) rfl ty56 (.blk (n := 4) (hL.at 2 rfl) rfl)) fun a hk => ?_
     refine d_w 9 927 hk hL rfl (fun w hL => w_mv rfl) fun a hk => ?_
     refine d_w 10 1951 hk hL rfl (fun w hL => w_mv rfl) fun a hk => ?_
     refine d_w 11 3999 hk hL rfl (fun w hL => w_iaL (k := k) rfl rfl Tryz.underlying51 ty56 (hL.at 3 rfl) (by omega) (by omega)) fun a hk => ?_
     refine d_w 12 8095 hk hL rfl (fun w hL => w_ldv (z := mq (pq k)) rfl ty56 (lstq (k := k) (hL.at 3 rfl) (by omega) (en_chunk vq_len (by omega)))) fun a hk => ?_
     refine d_2 5 13 8127 16287 rfl rfl (by kernel_rfl) (fun K hK => ?_) (fun K hK => ?_)
     ·
      refine q_v hk (w_iaL (k := k) rfl rfl Tryz.underlying51 ty56 (blk_lst (hs.mi 1 rfl) (en_len vq_len) (Nat.le_refl _)) (by omega) (by omega)) fun a hk => ?_
      have hL := okL.cons ((hF.pi 5 rfl).at_ hs) (okL.cons ((hF.pi 0 rfl).at_ hs) (okL.cons (hs.mi 2 rfl) (okL.cons (hQ.at_ hs) okL.nil)))
      refine c_end (x_t (hK _ _ hL ?_))
      clear hK K
      refine d_2 6 13 8191 16319 rfl rfl (by kernel_rfl) (fun K hK => ?_) (fun K hK => ?_)
      ·
       refine q_v hk (w_ldv (z := mq (po k)) rfl ty56 (vq_eq ita_at (lstq (k := k) (blk_lst (hs.mi 1 rfl) (en_len vq_len) (Nat.le_refl _)) (by omega) (en_chunk vq_len (by omega))))) fun a hk => ?_
       have hL := okL.cons ((hF.pi 5 rfl).at_ hs) (okL.cons ((hF.pi 0 rfl).at_ hs) (okL.cons (hs.mi 2 rfl) (okL.cons (hQ.at_ hs) okL.nil)))
       refine c_end (x_t (hK _ _ hL ?_))
       clear hK K
       refine d_1 13 16383 rfl (by kernel_rfl) fun K hK => ?_
       refine q_call (caps := []) hk rfl rfl Tryz.func120 fo120 rfl rfl (zmul_c (x := ((pw' i0) * (py i0))) (y := (pq k)) _ rfl rfl) ?_
       rintro _ w ⟨rfl, hb⟩
       have hs := hs.below hb
       refine ⟨_, rfl, fun a hk => ?_⟩
       have hL := okL.cons ((hF.pi 5 rfl).at_ hs) (okL.cons ((hF.pi 0 rfl).at_ hs) (okL.cons (hs.mi 2 rfl) (okL.cons (hQ.at_ hs) okL.nil)))
       refine c_end (x_t (hK _ _ hL ?_))
       clear hK K
       have hL := okL.cons ((hF.pi 5 rfl).at_ hs) (okL.cons ((hF.pi 0 rfl).at_ hs) (okL.cons (hs.mi 2 rfl) (okL.cons (hQ.at_ hs) okL.nil)))
       exact hJ16383 _ _ ⟨hk.k rfl (hk.k rfl (hk.k rfl (hk.k rfl (hk.k rfl (hk.k rfl (hk.k rfl (hk.k rfl (hk.k rfl (hk.k rfl (hk.k rfl (hk.k rfl (hk.k rfl (hk.k rfl (hk.k rfl (hk.k rfl (hk.k rfl (hk.k rfl (hk.k rfl (hk.k rfl (hk.k rfl (hk.k rfl (hk.k rfl (hk.k rfl (hk.k rfl (hk.k rfl (hk.k rfl (hk.k rfl (hk.k rfl hk.nil)))))))))))))))))))))))))))), hs, hL⟩
      ·
       refine q_call (caps := []) hk rfl rfl Tryz.func120 fo120 rfl rfl (zmul_c (x := ((pw' i0) * (py i0))) (y := (pq k)) _ rfl rfl) ?_
       rintro _ w ⟨rfl, hb⟩
       have hs := hs.below hb
       refine ⟨_, rfl, fun a hk => ?_⟩
       have hL := okL.cons ((hF.pi 5 rfl).at_ hs) (okL.cons ((hF.pi 0 rfl).at_ hs) (okL.cons (hs.mi 2 rfl) (okL.cons (hQ.at_ hs) okL.nil)))
       refine c_end (x_t (hK _ _ hL ?_))
       clear hK K
       have hL := okL.cons ((hF.pi 5 rfl).at_ hs) (okL.cons ((hF.pi 0 rfl).at_ hs) (okL.cons (hs.mi 2 rfl) (okL.cons (hQ.at_ hs) okL.nil)))
       exact hJ16319 _ _ ⟨hk.k rfl (hk.k rfl (hk.k rfl (hk.k rfl (hk.k rfl (hk.k rfl (hk.k rfl (hk.k rfl (hk.k rfl (hk.k rfl (hk.k rfl (hk.k rfl (hk.k rfl (hk.k rfl (hk.k rfl (hk.k rfl (hk.k rfl (hk.k rfl (hk.k rfl (hk.k rfl (hk.k rfl (hk.k rfl (hk.k rfl (hk.k rfl (hk.k rfl (hk.k rfl (hk.k rfl (hk.k rfl hk.nil))))))))))))))))))))))))))), hs, hL⟩
     ·
      refine q_call (caps := []) hk rfl rfl Tryz.func120 fo120 rfl rfl (zmul_c (x := ((pw' i0) * (py i0))) (y := (pq k)) _ rfl rfl) ?_
      rintro _ w ⟨rfl, hb⟩
      have hs := hs.below hb
      refine ⟨_, rfl, fun a hk => ?_⟩
      have hL := okL.cons ((hF.pi 5 rfl).at_ hs) (okL.cons ((hF.pi 0 rfl).at_ hs) (okL.cons (hs.mi 2 rfl) (okL.cons (hQ.at_ hs) okL.nil)))
      refine c_end (x_t (hK _ _ hL ?_))
      clear hK K
      refine d_1 5 16319 rfl (by kernel_rfl) fun K hK => ?_
      refine q_v hk (w_iaL (k := k) rfl rfl Tryz.underlying51 ty56 (blk_lst (hs.mi 1 rfl) (en_len vq_len) (Nat.le_refl _)) (by omega) (by omega)) fun a hk => ?_
      have hL := okL.cons ((hF.pi 5 rfl).at_ hs) (okL.cons ((hF.pi 0 rfl).at_ hs) (okL.cons (hs.mi 2 rfl) (okL.cons (hQ.at_ hs) okL.nil)))
      refine c_end (x_t (hK _ _ hL ?_))
      clear hK K
      have hL := okL.cons ((hF.pi 5 rfl).at_ hs) (okL.cons ((hF.pi 0 rfl).at_ hs) (okL.cons (hs.mi 2 rfl) (okL.cons (hQ.at_ hs) okL.nil)))
      exact hJ16319 _ _ ⟨hk.k rfl (hk.k rfl (hk.k rfl (hk.k rfl (hk.k rfl (hk.k rfl (hk.k rfl (hk.k rfl (hk.k rfl (hk.k rfl (hk.k rfl (hk.k rfl (hk.k rfl (hk.k rfl (hk.k rfl (hk.k rfl (hk.k rfl (hk.k rfl (hk.k rfl (hk.k rfl (hk.k rfl (hk.k rfl (hk.k rfl (hk.k rfl (hk.k rfl (hk.k rfl (hk.k rfl (hk.k rfl hk.nil))))))))))))))))))))))))))), hs, hL⟩
    ·
     rintro a w ⟨hk, hs, hL⟩
     refine d_1 6 16383 rfl (by kernel_rfl) fun K hK => ?_
     refine q_v hk (w_ldv (z := mq (po k)) rfl ty56 (vq_eq ita_at (lstq (k := k) (blk_lst (hs.mi 1 rfl) (en_len vq_len) (Nat.le_refl _)) (by omega) (en_chunk vq_len (by omega))))) fun a hk => ?_
     have hL := okL.cons ((hF.pi 5 rfl).at_ hs) (okL.cons ((hF.pi 0 rfl).at_ hs) (okL.cons (hs.mi 2 rfl) (okL.cons (hQ.at_ hs) okL.nil)))
     refine c_end (x_t (hK _ _ hL ?_))
     clear hK K
     have hL := okL.cons ((hF.pi 5 rfl).at_ hs) (okL.cons ((hF.pi 0 rfl).at_ hs) (okL.cons (hs.mi 2 rfl) (okL.cons (hQ.at_ hs) okL.nil)))
     exact hJ16383 _ _ ⟨hk.k rfl (hk.k rfl (hk.k rfl (hk.k rfl (hk.k rfl (hk.k rfl (hk.k rfl (hk.k rfl (hk.k rfl (hk.k rfl (hk.k rfl (hk.k rfl (hk.k rfl (hk.k rfl (hk.k rfl (hk.k rfl (hk.k rfl (hk.k rfl (hk.k rfl (hk.k rfl (hk.k rfl (hk.k rfl (hk.k rfl (hk.k rfl (hk.k rfl (hk.k rfl (hk.k rfl (hk.k rfl (hk.k rfl hk.nil)))))))))))))))))))))))))))), hs, hL⟩
   ·
    rintro a w ⟨hk, hs, hL⟩
    refine d_1 14 32767 rfl (by kernel_rfl) fun K hK => ?_
    refine q_call (caps := []) hk rfl rfl Tryz.func121 fo121 rfl rfl (zadd_c (x := (po k)) (y := (((pw' i0) * (py i0)) * (pq k))) _ rfl rfl) ?_
    rintro _ w ⟨rfl, hb⟩
    have hs := hs.below hb
    refine ⟨_, rfl, fun a hk => ?_⟩
    have hL := okL.cons ((hF.pi 5 rfl).at_ hs) (okL.cons ((hF.pi 0 rfl).at_ hs) (okL.cons (hs.mi 2 rfl) (okL.cons (hQ.at_ hs) okL.nil)))
    refine c_end (x_t (hK _ _ hL ?_))
    clear hK K
    refine d_1 15 65535 rfl (by kernel_rfl) fun K hK => ?_
    refine q_v hk (w_iaL (k := k) rfl rfl Tryz.underlying51 ty56 (blk_lst (hs.mi 1 rfl) (en_len vq_len) (Nat.le_refl _)) (by omega) (by omega)) fun a hk => ?_
    have hL := okL.cons ((hF.pi 5 rfl).at_ hs) (okL.cons ((hF.pi 0 rfl).at_ hs) (okL.cons (hs.mi 2 rfl) (okL.cons (hQ.at_ hs) okL.nil)))
    refine c_end (x_t (hK _ _ hL ?_))
    clear hK K
    refine d_1 16 131071 rfl (by kernel_rfl) fun K hK => ?_
    have hs := hs.up1
    refine q_stoE (c := vq) (xx := (mq ((po k) + (((pw' i0) * (py i0)) * (pq k))))) (k := k) hk hs rfl rfl rfl ty56 rfl vq_len rfl (by omega) rfl fun w hs => ?_
    have hL := okL.cons ((hF.pi 5 rfl).at_ hs) (okL.cons ((hF.pi 0 rfl).at_ hs) (okL.cons (hs.mi 2 rfl) (okL.cons (hQ.at_ hs) okL.nil)))
    refine c_end (x_t (hK _ _ hL ?_))
    clear hK K
    refine d_end (by kernel_rfl) ?_
    refine (x_b (x_t ?_))
    refine wR ?_
    refine q_v hk (w_add rfl rfl (wr64 (by omega) (by omega))) fun a hk => ?_
    refine q_v hk (w_mv rfl) fun a hk => ?_
    refine c_end (x_t ?_)
    have hs := hs.rw0 (congrArg (fun q => blk ob q 56) (ita_step (po := po) (pq := pq)))
    rw [pairT_next] at hT
    have hs := hs.up1
    have hs := hs.up2
    have hs := hs.up2
    exact ⟨k + 1, ⟨_, (by omega), hT, hk.k rfl (hk.k rfl (hk.k rfl (hk.k rfl (hk.k rfl (hk.k rfl (hk.k rfl (hk.k rfl hk.nil))))))), hs⟩, by omega⟩
  ·
   refine q_v hk (w_lt rfl rfl (decide_eq_false hc1)) fun a hk => ?_
   refine c_end (x_t (wS ?_))
   refine c_F hk rfl ?_
   refine (wpIn_exit (x_te (x_te (x_be ?_))))
   refine c_end0 hk rfl ?_
   have hs := hs.up1
   have hs := hs.drop
   have hs := hs.up1
   have hkn : k = n := by omega
   rw [hkn] at hs hT
   rw [ita_end] at hs
   exact ⟨_, _, rfl, hT, hs⟩
theorem interp_m {F0 : Nat → Prop} {W : World} {M R : List Res} (s : Bool) (n lc yc : Nat) (la ya : Option Addr) (v : Nat → Nat) (py : Nat → Zp s) (t : Option Nat) (evs : List Ev) (r : Res) (w0 : World) (hs : Sat F0 W (r :: M) ((lst 4 (.slice ya n yc) n (en vq (fun i => mq (py i)) n)) :: R) w0) (hT : TapeIs t evs r) (hL : HasR (lst 1 (.slice la n lc) n (en ic (fun i => ((v i : Nat) : Int)) n)) R) (h0 : 0 < n) (hn : n ≤ 255) (hv : ∀ i, i < n → 1 ≤ v i ∧ v i ≤ 255) (hd : ∀ i k, i < k → k < n → v i ≠ v k) (he : evs.length ≤ 10000000) : Calls Tryz.prog 90 [tval t, fieldV s, .slice la n lc, .slice ya n yc].toArray w0 fun e w => ∃ b r, e = .returned (.tuple #[.slice (some ⟨b, 0, none⟩) n n, .int .i64 0]) ∧ TapeIs t (evs ++ interpE (n : Int)) r ∧ Sat F0 W (r :: blk b (en vq (fun i => mq (itp (pt s v) py n n i)) n) 56 :: M) R w := by
 refine c_enter (args := [tval t, fieldV s, .slice la n lc, .slice ya n yc]) Tryz.func90 rfl rfl rfl fun a hk => ?_
 refine wS (wR ?_)
 refine q_box (vs := [tval t]) hk hs rfl rfl rfl rfl fun b1 w a hk hs => ?_
 refine q_box (vs := fieldL s) hk hs rfl rfl rfl rfl fun b2 w a hk hs => ?_
 refine q_box (vs := [.slice ya n yc]) hk hs rfl rfl rfl rfl fun b3 w a hk hs => ?_
 refine q_v hk (w_as rfl) fun a hk => ?_
 refine q_v hk (w_as rfl) fun a hk => ?_
 refine c_end (x_t (wS (wS (wR ?_))))
 refine q_v hk (w_mv rfl) fun a hk => ?_
 refine q_call (caps := []) hk rfl rfl Tryz.func127 fo127 rfl rfl (lcheck_c n lc la v _ ((hL.cons).at_ hs) (by omega) hv hd) ?_
 rintro _ w ⟨rfl, hb⟩
 have hs := hs.below hb
 refine ⟨_, rfl, fun a hk => ?_⟩
 refine q_v hk (w_as rfl) fun a hk => ?_
 refine c_end (x_t (wS (wR ?_)))
 refine q_v hk (w_mv rfl) fun a hk => ?_
 refine q_v hk (w_ne rfl rfl (decide_eq_false (by decide))) fun a hk => ?_
 refine c_end (x_t ?_)
 refine c_F hk rfl ?_
 refine (wpIn_skip (x_t ?_))
 refine wS (wS (wR ?_))
 refine q_v hk (w_mv rfl) fun a hk => ?_
 refine q_v hk (w_len rfl Tryz.underlying34) fun a hk => ?_
 refine q_v hk (w_ld1 rfl ty51 (.blk (n := 1) (hs.mi 0 rfl) rfl)) fun a hk => ?_
 refine q_v hk (w_len rfl Tryz.underlying51) fun a hk => ?_
 refine q_v hk (w_ne rfl rfl (decide_eq_false (by omega))) fun a hk => ?_
 refine c_end (x_t ?_)
 refine c_F hk rfl ?_
 refine (wpIn_skip (x_t ?_))
 refine wS (wR ?_)
 refine q_v hk (w_ld1 rfl ty60 (.blk (n := 1) (hs.mi 2 rfl) rfl)) fun a hk => ?_
 refine q_v hk (w_ldA rfl ty120 (.blk (n := 14) (hs.mi 1 rfl) rfl) rfl) fun a hk => ?_
 refine q_v hk (w_mv rfl) fun a hk => ?_
 have hs := hs.up3
 refine q_call (caps := []) hk rfl rfl Tryz.func116 fo116 rfl rfl (weights_m0 s n lc la v t evs _ _ hs hT (hL.cons) h0 hn hv hd (by omega)) ?_
 rintro _ w ⟨b4, r5, rfl, ht6, hs⟩
 have hT := ht6
 refine ⟨_, rfl, fun a hk => ?_⟩
 refine q_v hk (w_mv rfl) fun a hk => ?_
 refine q_v hk (w_ext rfl rfl) fun a hk => ?_
 refine q_v hk (w_ext rfl rfl) fun a hk => ?_
 refine q_alc (vs := [.slice none 0 0]) hk hs zr51 rfl rfl rfl fun b7 w a hk hs => ?_
 refine q_sto (o := 0) (cs := [.slice (some ⟨b4, 0, none⟩) n n]) (vs' := [.slice (some ⟨b4, 0, none⟩) n n]) hk hs rfl rfl rfl ty51 rfl rfl rfl rfl rfl rfl fun w hs => ?_
 refine q_v hk (w_as rfl) fun a hk => ?_
 refine c_end (x_t (wS (wR ?_)))
 refine q_v hk (w_ldA rfl ty120 (.blk (n := 14) (hs.mi 4 rfl) rfl) rfl) fun a hk => ?_
 refine q_v hk (w_mv rfl) fun a hk => ?_
 refine q_call (caps := []) hk rfl rfl Tryz.func117 fo117 rfl rfl (points_m s n lc la v _ (hs.hasR (hL.cons)) (by omega) hv) ?_
 rintro _ w ⟨b8, rfl, hs⟩
 have hs := hs.subR (R' := ((lst 4 (.slice ya n yc) n (en vq (fun i => mq (py i)) n)) :: R)) (by simp +contextual)
 refine ⟨_, rfl, fun a hk => ?_⟩
 refine q_v hk (w_as rfl) fun a hk => ?_
 have hs := hs.frz (r := lst 4 (.slice (some ⟨b8, 0, none⟩) n n) n (en vq (fun i => mq (pt s v i)) n)) (blk_lst (hs.mi 0 rfl) (en_len vq_len) (Nat.le_refl _)) (fun _ h => (Option.some.inj h.2).symm)
 refine c_end (x_t (wS (wR ?_)))
 refine q_v hk (w_ldA rfl ty120 (.blk (n := 14) (hs.mi 4 rfl) rfl) rfl) fun a hk => ?_
 refine q_v hk (w_mv rfl) fun a hk => ?_
 refine q_call (caps := []) hk rfl rfl Tryz.func118 fo118 rfl rfl (master_m s n n (some ⟨b8, 0, none⟩) (pt s v) _ (hs.hasR (HasR.nth 0 rfl)) (by omega)) ?_
 rintro _ w ⟨b9, rfl, hs⟩
 have hs := hs.subR (R' := ((lst 4 (.slice (some ⟨b8, 0, none⟩) n n) n (en vq (fun i => mq (pt s v i)) n)) :: (lst 4 (.slice ya n yc) n (en vq (fun i => mq (py i)) n)) :: R)) (by simp +contextual)
 refine ⟨_, rfl, fun a hk => ?_⟩
 refine q_v hk (w_as rfl) fun a hk => ?_
 have hs := hs.frz (r := lst 4 (.slice (some ⟨b9, 0, none⟩) (n + 1) (n + 1)) (n + 1) (en vq (fun i => mq (mst (pt s v) n i)) (n + 1))) (blk_lst (hs.mi 0 rfl) (en_len vq_len) (Nat.le_refl _)) (fun _ h => (Option.some.inj h.2).symm)
 refine c_end (x_t (wS (wR ?_)))
 refine q_v hk (w_mv rfl) fun a hk => ?_
 refine q_v hk (w_len rfl Tryz.underlying51) fun a hk => ?_
 refine q_mks (k := n) (cs := vq 0) hk hs rfl rfl Tryz.underlying51 ty56 zr56 (by kernel_rfl) rfl rfl rfl rfl (by omega) (by omega) rfl rfl fun b10 w a hk hs => ?_
 have hs := hs.rw0 (show _ = blk b10 (en vq (fun _ => 0) n) 56 from rfl)
 refine q_alc (vs := [.slice none 0 0]) hk hs zr51 rfl rfl rfl fun b11 w a hk hs => ?_
 refine q_sto (o := 0) (cs := [.slice (some ⟨b10, 0, none⟩) n n]) (vs' := [.slice (some ⟨b10, 0, none⟩) n n]) hk hs rfl rfl rfl ty51 rfl rfl rfl rfl rfl rfl fun w hs => ?_
 refine c_end (x_t (wS (wR ?_)))
 refine q_v hk (w_mkf (frees := [.tmp 5, .tmp 11, .tmp 7, .tmp 15, .tmp 4]) rfl) fun a hk => ?_
 refine q_v hk (w_as rfl) fun a hk => ?_
 refine c_end (x_t (wS (wS (wR ?_))))
 refine q_v hk (w_mv rfl) fun a hk => ?_
 refine q_v hk (w_len rfl Tryz.underlying51) fun a hk => ?_
 refine q_v hk (w_mv rfl) fun a hk => ?_
 refine c_end (x_t ?_)
 refine wpIn_block ?_
 have hs := hs.up4
 have hs := hs.frz (r := lst 4 (.slice (some ⟨b4, 0, none⟩) n n) n (en vq (fun i => mq (wgt (pt s v) n i)) n)) (blk_lst (hs.mi 0 rfl) (en_len vq_len) (Nat.le_refl _)) (fun _ h => (Option.some.inj h.2).symm)
 have hs := hs.up6
 have hs := hs.frz (r := blk b1 [tval t] 60) (hs.okM _ (.head _)) (fun _ h => h)
 have hs := hs.up5
 have hs := hs.frz (r := blk b2 (fieldL s) 120) (hs.okM _ (.head _)) (fun _ h => h)
 have hs := hs.up4
 have hs := hs.frz (r := blk b3 [.slice ya n yc] 51) (hs.okM _ (.head _)) (fun _ h => h)
 have hs := hs.up2
 have hs := hs.frz (r := blk b7 [.slice (some ⟨b4, 0, none⟩) n n] 51) (hs.okM _ (.head _)) (fun _ h => h)
 have hs := hs.frz (r := blk b11 [.slice (some ⟨b10, 0, none⟩) n n] 51) (hs.okM _ (.head _)) (fun _ h => h)
 have hs := hs.rw0 (congrArg (fun q => blk b10 q 56) (itp_zero (x := pt s v) (y := py) (n := n)))
 refine c_loop (α := Nat) (fun u a w => ∃ (r : Res), u ≤ n ∧ TapeIs t (evs ++ weightsE (n : Int) ++ upE 0 ((u : Nat) : Int) (pairT n)) r ∧ Kn [] 68 [(49, .int .i64 ((u : Nat) : Int)), (48, .int .i64 ((n : Nat) : Int)), (16, .func (.func 128) #[] #[.pointer (some ⟨b2, 0, none⟩), .pointer (some ⟨b7, 0, none⟩), .pointer (some ⟨b3, 0, none⟩), .pointer (some ⟨b11, 0, none⟩), .pointer (some ⟨b1, 0, none⟩)]), (15, .pointer (some ⟨b11, 0, none⟩)), (14, .slice (some ⟨b9, 0, none⟩) (n + 1) (n + 1)), (13, .slice (some ⟨b8, 0, none⟩) n n), (9, .int .i64 0), (8, .slice none 0 0), (5, .pointer (some ⟨b2, 0, none⟩))] a ∧ Sat F0 W ((blk b10 (en vq (fun i => mq (itp (pt s v) py n u i)) n) 56) :: r :: M) ((blk b11 [.slice (some ⟨b10, 0, none⟩) n n] 51) :: (blk b7 [.slice (some ⟨b4, 0, none⟩) n n] 51) :: (blk b3 [.slice ya n yc] 51) :: (blk b2 (fieldL s) 120) :: (blk b1 [tval t] 60) :: (lst 4 (.slice (some ⟨b4, 0, none⟩) n n) n (en vq (fun i => mq (wgt (pt s v) n i)) n)) :: (lst 4 (.slice (some ⟨b9, 0, none⟩) (n + 1) (n + 1)) (n + 1) (en vq (fun i => mq (mst (pt s v) n i)) (n + 1))) :: (lst 4 (.slice (some ⟨b8, 0, none⟩) n n) n (en vq (fun i => mq (pt s v i)) n)) :: (lst 4 (.slice ya n yc) n (en vq (fun i => mq (py i)) n)) :: R) w) (fun u => n - u) 0 ?_ ?_
 · exact ⟨_, (by omega), (by rw [upE_nil (by omega), List.append_nil]; exact hT), hk.k rfl (hk.k rfl (hk.k rfl (hk.k rfl (hk.k rfl (hk.k rfl (hk.k rfl (hk.k rfl (hk.k rfl hk.nil)))))))), hs⟩
 rintro u a w ⟨r, hf0, hf1, hk, hs⟩
 have hT := hf1
 have hlw := weights_len (n := (n : Int)) (by omega)
 have hlu := pairTs_len (n := n) (u := u)
 have hun : u * n ≤ 1000 * 1000 := Nat.mul_le_mul (by omega) (by omega)
 refine wS (wR ?_)
 rcases Classical.em (((u : Nat) : Int) < ((n : Nat) : Int)) with hc12 | hc12
 ·
  refine q_v hk (w_lt rfl rfl (decide_eq_true hc12)) fun a hk => ?_
  refine c_end (x_t (wS ?_))
  refine c_T hk rfl ?_
  refine (wpIn_skip (x_t ?_))
  refine wS ?_
  refine wpIn_block ?_
  refine wS (wR ?_)
  refine q_v hk (w_mv rfl) fun a hk => ?_
  refine q_v hk (w_as rfl) fun a hk => ?_
  refine c_end (x_t (wS ?_))
  have hL := okL.cons (hs.ri 3 rfl) (okL.cons (hs.ri 7 rfl) okL.nil)
  refine d_begin _ 13 (by kernel_rfl) rfl hs hL fun w hs hL => ?_
  refine d_join (n2 := 1) 4095 (fun a w => ∃ (b1_6 : Nat) (b1_10 : Nat), Kn [] 68 [(18, .slice (some ⟨b1_6, 0, none⟩) (n + 1 - 1) (n + 1 - 1)), (19, .pointer (some ⟨b1_10, 0, none⟩)), (61, vec (mq (Hn (mst (pt s v) n) (n + 1) (pt s v u) (n + 1)))), (60, .slice (some ⟨b1_6, 0, none⟩) (n + 1 - 1) (n + 1 - 1)), (52, .tuple #[.slice (some ⟨b1_6, 0, none⟩) (n + 1 - 1) (n + 1 - 1), vec (mq (Hn (mst (pt s v) n) (n + 1) (pt s v u) (n + 1)))]), (59, .tuple #[.slice (some ⟨b1_6, 0, none⟩) (n + 1 - 1) (n + 1 - 1), vec (mq (Hn (mst (pt s v) n) (n + 1) (pt s v u) (n + 1)))]), (58, vec (mq (pt s v u))), (57, .pointer (some ((adq (some ⟨b8, 0, none⟩)).add (u * 4)))), (56, .int .i64 ((u : Nat) : Int)), (55, .slice (some ⟨b8, 0, none⟩) n n), (54, .slice (some ⟨b9, 0, none⟩) (n + 1) (n + 1)), (53, fieldV s), (17, .int .i64 ((u : Nat) : Int)), (51, .int .i64 ((u : Nat) : Int)), (50, .bool true), (49, .int .i64 ((u : Nat) : Int)), (48, .int .i64 ((n : Nat) : Int)), (16, .func (.func 128) #[] #[.pointer (some ⟨b2, 0, none⟩), .pointer (some ⟨b7, 0, none⟩), .pointer (some ⟨b3, 0, none⟩), .pointer (some ⟨b11, 0, none⟩), .pointer (some ⟨b1, 0, none⟩)]), (15, .pointer (some ⟨b11, 0, none⟩)), (14, .slice (some ⟨b9, 0, none⟩) (n + 1) (n + 1)), (13, .slice (some ⟨b8, 0, none⟩) n n), (9, .int .i64 0), (8, .slice none 0 0), (5, .pointer (some ⟨b2, 0, none⟩))] a ∧ Sat F0 W ((blk b1_10 [.int .u64 0, .int .u64 0, .int .u64 0, .int .u64 0] 56) :: (blk b1_6 (en vq (fun i => mq (Hn (mst (pt s v) n) (n + 1) (pt s v u) (n + 1 - 1 - i))) (n + 1 - 1)) 56) :: (blk b10 (en vq (fun i => mq (itp (pt s v) py n u i)) n) 56) :: r :: M) ((blk b11 [.slice (some ⟨b10, 0, none⟩) n n] 51) :: (blk b7 [.slice (some ⟨b4, 0, none⟩) n n] 51) :: (blk b3 [.slice ya n yc] 51) :: (blk b2 (fieldL s) 120) :: (blk b1 [tval t] 60) :: (lst 4 (.slice (some ⟨b4, 0, none⟩) n n) n (en vq (fun i => mq (wgt (pt s v) n i)) n)) :: (lst 4 (.slice (some ⟨b9, 0, none⟩) (n + 1) (n + 1)) (n + 1) (en vq (fun i => mq (mst (pt s v) n i)) (n + 1))) :: (lst 4 (.slice (some ⟨b8, 0, none⟩) n n) n (en vq (fun i => mq (pt s v i)) n)) :: (lst 4 (.slice ya n yc) n (en vq (fun i => mq (py i)) n)) :: R) w ∧ okL [blk b2 (fieldL s) 120, lst 4 (.slice (some ⟨b8, 0, none⟩) n n) n (en vq (fun i => mq (pt s v i)) n)] w) ?_ ?_
  ·
   intro hJ4095
   refine d_w 0 1 hk hL rfl (fun w hL => w_ldA rfl ty120 (.blk (n := 14) (hL.at 0 rfl) rfl) rfl) fun a hk => ?_
   refine d_w 1 3 hk hL rfl (fun w hL => w_mv rfl) fun a hk => ?_
   refine d_w 2 7 hk hL rfl (fun w hL => w_mv rfl) fun a hk => ?_
   refine d_w 3 15 hk hL rfl (fun w hL => w_mv rfl) fun a hk => ?_
   refine d_w 4 31 hk hL rfl (fun w hL => w_iaL (k := u) rfl rfl Tryz.underlying51 ty56 (hL.at 1 rfl) (by omega) (by omega)) fun a hk => ?_
   refine d_w 5 63 hk hL rfl (fun w hL => w_ldv (z := mq (pt s v u)) rfl ty56 (lstq (k := u) (hL.at 1 rfl) (by omega) (en_chunk vq_len (by omega)))) fun a hk => ?_
   refine d_2 6 10 127 1087 rfl rfl (by kernel_rfl) (fun K hK => ?_) (fun K hK => ?_)
   ·
    have hs := hs.none
    refine q_call (caps := []) hk rfl rfl Tryz.func119 fo119 rfl rfl (quot_m s (n + 1) (n + 1) (some ⟨b9, 0, none⟩) (mst (pt s v) n) (pt s v u) none [] _ _ hs rfl (HasR.nth 6 rfl) (by omega) (by omega) (by decide)) ?_
    rintro _ w ⟨b1_6, r1_6b, rfl, ht1_6c, hs⟩
    have hs := hs.drop
    refine ⟨_, rfl, fun a hk => ?_⟩
    have hL := okL.cons (hs.ri 3 rfl) (okL.cons (hs.ri 7 rfl) okL.nil)
    refine c_end (x_t (hK _ _ hL ?_))
    clear hK K
    refine d_w 7 255 hk hL rfl (fun w hL => w_mv rfl) fun a hk => ?_
    refine d_w 8 511 hk hL rfl (fun w hL => w_ext rfl rfl) fun a hk => ?_
    refine d_w 9 1023 hk hL rfl (fun w hL => w_ext rfl rfl) fun a hk => ?_
    refine d_1 10 2047 rfl (by kernel_rfl) fun K hK => ?_
    refine q_alc (vs := [.int .u64 0, .int .u64 0, .int .u64 0, .int .u64 0]) hk hs zr56 rfl rfl rfl fun b1_10 w a hk hs => ?_
    have hL := okL.cons (hs.ri 3 rfl) (okL.cons (hs.ri 7 rfl) okL.nil)
    refine c_end (x_t (hK _ _ hL ?_))
    clear hK K
    refine d_w 11 4095 hk hL rfl (fun w hL => w_as rfl) fun a hk => ?_
    have hL := okL.cons (hs.ri 3 rfl) (okL.cons (hs.ri 7 rfl) okL.nil)
    exact hJ4095 _ _ ⟨_, _, hk.k rfl (hk.k rfl (hk.k rfl (hk.k rfl (hk.k rfl (hk.k rfl (hk.k rfl (hk.k rfl (hk.k rfl (hk.k rfl (hk.k rfl (hk.k rfl (hk.k rfl (hk.k rfl (hk.k rfl (hk.k rfl (hk.k rfl (hk.k rfl (hk.k rfl (hk.k rfl (hk.k rfl (hk.k rfl (hk.k rfl (hk.k rfl hk.nil))))))))))))))))))))))), hs, hL⟩
   ·
    refine q_alc (vs := [.int .u64 0, .int .u64 0, .int .u64 0, .int .u64 0]) hk hs zr56 rfl rfl rfl fun b1_10 w a hk hs => ?_
    have hL := okL.cons (hs.ri 3 rfl) (okL.cons (hs.ri 7 rfl) okL.nil)
    refine c_end (x_t (hK _ _ hL ?_))
    clear hK K
    refine d_1 6 1151 rfl (by kernel_rfl) fun K hK => ?_
    have hs := hs.none
    refine q_call (caps := []) hk rfl rfl Tryz.func119 fo119 rfl rfl (quot_m s (n + 1) (n + 1) (some ⟨b9, 0, none⟩) (mst (pt s v) n) (pt s v u) none [] _ _ hs rfl (HasR.nth 6 rfl) (by omega) (by omega) (by decide)) ?_
    rintro _ w ⟨b1_6, r1_6b, rfl, ht1_6c, hs⟩
    have hs := hs.drop
    refine ⟨_, rfl, fun a hk => ?_⟩
    have hL := okL.cons (hs.ri 3 rfl) (okL.cons (hs.ri 7 rfl) okL.nil)
    refine c_end (x_t (hK _ _ hL ?_))
    clear hK K
    refine d_w 7 1279 hk hL rfl (fun w hL => w_mv rfl) fun a hk => ?_
    refine d_w 8 1535 hk hL rfl (fun w hL => w_ext rfl rfl) fun a hk => ?_
    refine d_w 9 2047 hk hL rfl (fun w hL => w_ext rfl rfl) fun a hk => ?_
    refine d_w 11 4095 hk hL rfl (fun w hL => w_as rfl) fun a hk => ?_
    have hs := hs.up3
    have hs := hs.up3
    have hs := hs.up2
    have hs := hs.up3
    have hL := okL.cons (hs.ri 3 rfl) (okL.cons (hs.ri 7 rfl) okL.nil)
    exact hJ4095 _ _ ⟨_, _, hk.k rfl (hk.k rfl (hk.k rfl (hk.k rfl (hk.k rfl (hk.k rfl (hk.k rfl (hk.k rfl (hk.k rfl (hk.k rfl (hk.k rfl (hk.k rfl (hk.k rfl (hk.k rfl (hk.k rfl (hk.k rfl (hk.k rfl (hk.k rfl (hk.k rfl (hk.k rfl (hk.k rfl (hk.k rfl (hk.k rfl (hk.k rfl hk.nil))))))))))))))))))))))), hs, hL⟩
  ·
   rintro a w ⟨b1_6, b1_10, hk, hs, hL⟩
   refine d_1 12 8191 rfl (by kernel_rfl) fun K hK => ?_
   refine q_sto (o := 0) (cs := [.int .u64 ((dg 0 (mq (Hn (mst (pt s v) n) (n + 1) (pt s v u) (n + 1))) : Nat) : Int), .int .u64 ((dg 1 (mq (Hn (mst (pt s v) n) (n + 1) (pt s v u) (n + 1))) : Nat) : Int), .int .u64 ((dg 2 (mq (Hn (mst (pt s v) n) (n + 1) (pt s v u) (n + 1))) : Nat) : Int), .int .u64 ((dg 3 (mq (Hn (mst (pt s v) n) (n + 1) (pt s v u) (n + 1))) : Nat) : Int)]) (vs' := [.int .u64 ((dg 0 (mq (Hn (mst (pt s v) n) (n + 1) (pt s v u) (n + 1))) : Nat) : Int), .int .u64 ((dg 1 (mq (Hn (mst (pt s v) n) (n + 1) (pt s v u) (n + 1))) : Nat) : Int), .int .u64 ((dg 2 (mq (Hn (mst (pt s v) n) (n + 1) (pt s v u) (n + 1))) : Nat) : Int), .int .u64 ((dg 3 (mq (Hn (mst (pt s v) n) (n + 1) (pt s v u) (n + 1))) : Nat) : Int)]) hk hs rfl rfl rfl ty56 rfl rfl rfl rfl rfl rfl fun w hs => ?_
   have hL := okL.cons (hs.ri 3 rfl) (okL.cons (hs.ri 7 rfl) okL.nil)
   refine c_end (x_t (hK _ _ hL ?_))
   clear hK K
   refine d_end (by kernel_rfl) ?_
   refine (x_t ?_)
   refine wR ?_
   refine q_v hk (w_mv rfl) fun a hk => ?_
   refine q_v hk (w_mv rfl) fun a hk => ?_
   refine q_v hk (w_mv rfl) fun a hk => ?_
   have hs := hs.up1
   have hs := hs.frz (r := lst 4 (.slice (some ⟨b1_6, 0, none⟩) (n + 1 - 1) (n + 1 - 1)) (n + 1 - 1) (en vq (fun i => mq (Hn (mst (pt s v) n) (n + 1) (pt s v u) (n + 1 - 1 - i))) (n + 1 - 1))) (blk_lst (hs.mi 0 rfl) (en_len vq_len) (Nat.le_refl _)) (fun _ h => (Option.some.inj h.2).symm)
   have hs := hs.up1
   have hs := hs.up2
   have hFF : HasR (rall [blk b2 (fieldL s) 120, blk b7 [.slice (some ⟨b4, 0, none⟩) n n] 51, lst 4 (.slice (some ⟨b4, 0, none⟩) n n) n (en vq (fun i => mq (wgt (pt s v) n i)) n), blk b3 [.slice ya n yc] 51, lst 4 (.slice ya n yc) n (en vq (fun i => mq (py i)) n), blk b11 [.slice (some ⟨b10, 0, none⟩) n n] 51, blk b1 [tval t] 60]) ((lst 4 (.slice (some ⟨b1_6, 0, none⟩) (n + 1 - 1) (n + 1 - 1)) (n + 1 - 1) (en vq (fun i => mq (Hn (mst (pt s v) n) (n + 1) (pt s v u) (n + 1 - 1 - i))) (n + 1 - 1))) :: (blk b11 [.slice (some ⟨b10, 0, none⟩) n n] 51) :: (blk b7 [.slice (some ⟨b4, 0, none⟩) n n] 51) :: (blk b3 [.slice ya n yc] 51) :: (blk b2 (fieldL s) 120) :: (blk b1 [tval t] 60) :: (lst 4 (.slice (some ⟨b4, 0, none⟩) n n) n (en vq (fun i => mq (wgt (pt s v) n i)) n)) :: (lst 4 (.slice (some ⟨b9, 0, none⟩) (n + 1) (n + 1)) (n + 1) (en vq (fun i => mq (mst (pt s v) n i)) (n + 1))) :: (lst 4 (.slice (some ⟨b8, 0, none⟩) n n) n (en vq (fun i => mq (pt s v i)) n)) :: (lst 4 (.slice ya n yc) n (en vq (fun i => mq (py i)) n)) :: R) := (.rall fun q hq => by simp only [List.mem_cons, List.not_mem_nil, or_false] at hq; rcases hq with rfl | rfl | rfl | rfl | rfl | rfl | rfl <;> exact HasR.of (by simp))
   refine q_call (caps := [.pointer (some ⟨b2, 0, none⟩), .pointer (some ⟨b7, 0, none⟩), .pointer (some ⟨b3, 0, none⟩), .pointer (some ⟨b11, 0, none⟩), .pointer (some ⟨b1, 0, none⟩)]) hk rfl rfl Tryz.func128 fo128 rfl rfl (iadd_m s n u b2 b7 b3 b11 b1 b4 b10 b1_6 yc ya (wgt (pt s v) n) py (itp (pt s v) py n u) (fun k => Hn (mst (pt s v) n) (n + 1) (pt s v u) (n + 1 - 1 - k)) t (evs ++ weightsE (n : Int) ++ upE 0 ((u : Nat) : Int) (pairT n)) _ _ hs hFF (HasR.nth 0 rfl) hT (by omega) (by omega) (by simp only [List.length_append]; omega)) ?_
   rintro _ w ⟨v13, r14, rfl, hT, hs⟩
   have hs : Sat F0 W (r14 :: (blk b10 (en vq (fun i => mq (itp (pt s v) py n (u + 1) i)) n) 56) :: (blk b1_10 [.int .u64 ((dg 0 (mq (Hn (mst (pt s v) n) (n + 1) (pt s v u) (n + 1))) : Nat) : Int), .int .u64 ((dg 1 (mq (Hn (mst (pt s v) n) (n + 1) (pt s v u) (n + 1))) : Nat) : Int), .int .u64 ((dg 2 (mq (Hn (mst (pt s v) n) (n + 1) (pt s v u) (n + 1))) : Nat) : Int), .int .u64 ((dg 3 (mq (Hn (mst (pt s v) n) (n + 1) (pt s v u) (n + 1))) : Nat) : Int)] 56) :: M) ((lst 4 (.slice (some ⟨b1_6, 0, none⟩) (n + 1 - 1) (n + 1 - 1)) (n + 1 - 1) (en vq (fun i => mq (Hn (mst (pt s v) n) (n + 1) (pt s v u) (n + 1 - 1 - i))) (n + 1 - 1))) :: (blk b11 [.slice (some ⟨b10, 0, none⟩) n n] 51) :: (blk b7 [.slice (some ⟨b4, 0, none⟩) n n] 51) :: (blk b3 [.slice ya n yc] 51) :: (blk b2 (fieldL s) 120) :: (blk b1 [tval t] 60) :: (lst 4 (.slice (some ⟨b4, 0, none⟩) n n) n (en vq (fun i => mq (wgt (pt s v) n i)) n)) :: (lst 4 (.slice (some ⟨b9, 0, none⟩) (n + 1) (n + 1)) (n + 1) (en vq (fun i => mq (mst (pt s v) n i)) (n + 1))) :: (lst 4 (.slice (some ⟨b8, 0, none⟩) n n) n (en vq (fun i => mq (pt s v i)) n)) :: (lst 4 (.slice ya n yc) n (en vq (fun i => mq (py i)) n)) :: R) w := hs
   have hs := hs.subR (R' := ((blk b11 [.slice (some ⟨b10, 0, none⟩) n n] 51) :: (blk b7 [.slice (some ⟨b4, 0, none⟩) n n] 51) :: (blk b3 [.slice ya n yc] 51) :: (blk b2 (fieldL s) 120) :: (blk b1 [tval t] 60) :: (lst 4 (.slice (some ⟨b4, 0, none⟩) n n) n (en vq (fun i => mq (wgt (pt s v) n i)) n)) :: (lst 4 (.slice (some ⟨b9, 0, none⟩) (n + 1) (n + 1)) (n + 1) (en vq (fun i => mq (mst (pt s v) n i)) (n + 1))) :: (lst 4 (.slice (some ⟨b8, 0, none⟩) n n) n (en vq (fun i => mq (pt s v i)) n)) :: (lst 4 (.slice ya n yc) n (en vq (fun i => mq (py i)) n)) :: R)) (by simp +contextual)
   refine ⟨_, rfl, fun a hk => ?_⟩
   refine (c_end (x_b (x_t ?_)))
   refine wR ?_
   refine q_v hk (w_add rfl rfl (wr64 (by omega) (by omega))) fun a hk => ?_
   refine q_v hk (w_mv rfl) fun a hk => ?_
   refine c_end (x_t ?_)
   rw [pt_row] at hT
   have hs := hs.up2
   have hs := hs.drop
   have hs := hs.up1
   exact ⟨u + 1, ⟨_, (by omega), hT, hk.k rfl (hk.k rfl (hk.k rfl (hk.k rfl (hk.k rfl (hk.k rfl (hk.k rfl (hk.k rfl (hk.k rfl hk.nil)))))))), hs⟩, by omega⟩
 ·
  refine q_v hk (w_lt rfl rfl (decide_eq_false hc12)) fun a hk => ?_
  refine c_end (x_t (wS ?_))
  refine c_F hk rfl ?_
  refine (wpIn_exit (x_te (x_te (x_be ?_))))
  refine (x_t ?_)
  refine wS (wR ?_)
  refine q_v hk (w_ld1 rfl ty51 (.blk (n := 1) (hs.ri 0 rfl) rfl)) fun a hk => ?_
  refine q_v hk (w_as rfl) fun a hk => ?_
  refine q_v hk (w_as rfl) fun a hk => ?_
  refine c_end (x_t ?_)
  refine (wpIn_ret ?_)
  refine c_ret2 hk rfl rfl rfl ?_
  have hs := hs.up1
  have hs := hs.toR (R' := R) (fun r hr => .of (by simp [hr]))
  have hun : u = n := by omega
  rw [hun] at hs hT
  exact ⟨_, _, rfl, by unfold interpE; rw [← List.append_assoc]; exact hT, hs⟩
end Go.Proofs.YtdnkkbmpefhbjaaGreatDoor
namespace Go.Proofs.YtdnkkbmpefhbjaaGreatDoor
set_option linter.all false
open Go Go.RowKit Alg
/-- An element as the reference has it. -/
def zv {s : Bool} (z : Zp s) : Nat := z.val
section
variable {s : Bool} (w : World)
theorem rform_z {a : Nat} {x : Zp s} (ha : a = zv x) : Calls Tryz.prog 43 #[vec (pr s), vec a] w fun e w' => e = .returned (vec (mq x)) ∧ Below w.heap.size w w' := by
  subst ha
  exact refForm_c (pr s) x.val (pr_lt s) (pr_gt1 s) (val_lt4 x) w
end
end Go.Proofs.YtdnkkbmpefhbjaaGreatDoor
namespace Go.Proofs.YtdnkkbmpefhbjaaGreatDoor
set_option linter.all false
open Go Go.RowKit Alg
end Go.Proofs.YtdnkkbmpefhbjaaGreatDoor
namespace Go.Proofs.YtdnkkbmpefhbjaaGreatDoor
set_option linter.all false
open Go Go.RowKit Alg
end Go.Proofs.YtdnkkbmpefhbjaaGreatDoor
namespace Go.Proofs.YtdnkkbmpefhbjaaGreatDoor
set_option linter.all false
open Go Go.RowKit Alg
end Go.Proofs.YtdnkkbmpefhbjaaGreatDoor
namespace Go.Proofs.YtdnkkbmpefhbjaaGreatDoor
set_option linter.all false
open Go.RowKit
/-- The number of the first n bytes, the least first. -/
def le (f : Nat → Nat) : Nat → Nat
  | 0 => 0
  | n + 1 => le f n + f n * 256 ^ n
theorem le_succ (f : Nat → Nat) (n : Nat) : le f (n + 1) = le f n + f n * 256 ^ n := rfl
theorem le_zero {f : Nat → Nat} (n m : Nat) (hz : ∀ j, n ≤ j → j < m → f j = 0) (hnm : n ≤ m) : le f m = le f n := by
  obtain ⟨k, rfl⟩ : ∃ k, m = n + k := ⟨m - n, by omega⟩
  induction k with
  | zero => rfl
  | succ k ih =>
    rw [← Nat.add_assoc, le_succ, ih (fun j h1 h2 => hz j h1 (by omega)) (by omega), hz (n + k) (by omega) (by omega)]
    simp
theorem W_256 : W = 256 ^ 8 := by decide
/-- Byte k of a number. -/
def byt (n k : Nat) : Nat := n / 256 ^ k % 256
theorem byt_lt (n k : Nat) : byt n k < 256 := Nat.mod_lt _ (by decide)
/-- Byte 8 i + k of a vector is byte k of its word i. -/
theorem byt_dg (n i k : Nat) (hk : k < 8) : byt (dg i n) k = byt n (8 * i + k) := by
  unfold byt dg
  rw [W_256, ← Nat.pow_mul, Nat.pow_add, ← Nat.div_div_eq_div_mul]
  generalize n / 256 ^ (8 * i) = m
  obtain ⟨r, hr⟩ : ∃ r, 8 = k + 1 + r := ⟨7 - k, by omega⟩
  rw [hr, Nat.pow_add, Nat.pow_succ, Nat.mul_assoc, Nat.mod_mul_right_div_self, Nat.mod_mul_right_mod]
end Go.Proofs.YtdnkkbmpefhbjaaGreatDoor
namespace Go.Proofs.YtdnkkbmpefhbjaaGreatDoor
set_option linter.all false
open Go.RowKit
end Go.Proofs.YtdnkkbmpefhbjaaGreatDoor
namespace Go.Proofs.YtdnkkbmpefhbjaaGreatDoor
set_option linter.all false
open Go.RowKit
/-- An array of 32 bytes. -/
structure Arr32 (A : Array Value) (f : Nat → Nat) : Prop where
  size : A.size = 32
  get : ∀ j, j < 32 → A[j]? = some (.int .u8 ((f j : Nat) : Int))
  lt : ∀ j, f j < 256
end Go.Proofs.YtdnkkbmpefhbjaaGreatDoor
namespace Go.Proofs.YtdnkkbmpefhbjaaGreatDoor
set_option linter.all false
open Go Go.RowKit
/-- n bytes lie behind ⟨b, off⟩. -/
structure BytesAt (w : World) (b off n : Nat) (f : Nat → Nat) : Prop where
  lt : ∀ j, f j < 256
  blk : b < w.heap.size
  cell : ∀ j, j < n → w.cell? ⟨b, off + j, none⟩ = some (.int .u8 ((f j : Nat) : Int))
theorem BytesAt.below {w w' : World} {b off n : Nat} {f : Nat → Nat} (h : BytesAt w b off n f) (hb : Below w.heap.size w w') : BytesAt w' b off n f :=
  ⟨h.lt, Nat.lt_of_lt_of_le h.blk hb.size, fun j hj => (hb.cell (p := ⟨b, off + j, none⟩) h.blk).trans (h.cell j hj)⟩
theorem BytesAt.part {w : World} {b off n : Nat} {f : Nat → Nat} (h : BytesAt w b off n f) (k m : Nat) (hk : k + m ≤ n) : BytesAt w b (off + k) m (fun j => f (k + j)) :=
  ⟨fun j => h.lt _, h.blk, fun j hj => by rw [Nat.add_assoc]; exact h.cell (k + j) (by omega)⟩
theorem BytesAt.take {w : World} {b off n : Nat} {f : Nat → Nat} (h : BytesAt w b off n f) (m : Nat) (hk : m ≤ n) : BytesAt w b off m f :=
  ⟨h.lt, h.blk, fun j hj => h.cell j (by omega)⟩
theorem run_loadVar_at {P : Program} (w : World) (a : Addr) (ty : TypeId) (cs : List Value) (d : TypeDesc) (hc : ∀ j v, cs[j]? = some v → w.cell? (a.add j) = some v)
    (hu : P.underlying ty = some d) (hd : (match d with | .struct _ | .array _ _ => true | _ => false) = true) (hi : (P.info? ty).map (·.size) = some cs.length) :
    (loadVar ty a).run P w = .ok (.agg cs.toArray) w := by
  have hl : (loadCells a cs.length).run P w = .ok cs.toArray w := run_loadCells_list (P := P) w a cs hc
  have hagg : (isAgg ty).run P w = .ok true w := by
    unfold isAgg
    rw [Sem.run_bind, run_underlying hu w]
    cases d <;> simp_all
  cases hq : P.info? ty with
  | none => rw [hq] at hi; cases hi
  | some i =>
    have hs : i.size = cs.length := by rw [hq] at hi; simpa using hi
    simp [loadVar, Sem.run_bind, hagg, sizeOf, typeInfo, hq, hs, hl]
theorem exec_load {P : Program} {ρ : Operand → Value} {o : Oper} {w : World} {ty : TypeId} {x : Operand} {p v : Value} (ho : o.op = .load ty x) (hx : ρ x = p) (hv : (Instr.loadAt ty p).run P w = .ok v w) :
    (execOp ρ o).run P w = .ok (.value v) w := by
  unfold execOp
  simp only [ho, hx, Sem.run_bind, Sem.run_pure, Result.andThen_ok, hv]
end Go.Proofs.YtdnkkbmpefhbjaaGreatDoor
namespace Go.Proofs.YtdnkkbmpefhbjaaGreatDoor
set_option linter.all false
open Go Go.RowKit
/-- The first n bytes of v. -/
def bl (v n : Nat) : List Value := (List.range n).map fun j => Value.int .u8 ((byt v j : Nat) : Int)
theorem bl_succ (v n : Nat) : bl v n ++ [.int .u8 ((byt v n : Nat) : Int)] = bl v (n + 1) := by simp [bl, List.range_succ]
theorem bl_get (v n j : Nat) (h : j < n) : (bl v n)[j]? = some (.int .u8 ((byt v j : Nat) : Int)) := by simp [bl, h]
theorem infoByte : (Tryz.prog.info? 5).map (fun i => (i.zero, i.size, i.bytes)) = some (some (.int .u8 0), 1, 1) := by kernel_rfl
theorem one_byte (x : Int) : ∀ u ∈ [Value.int .u8 x], u.oneCell' = true := fun u hu => by
  simp only [List.mem_singleton] at hu
  subst hu
  rfl
/-- What the append of one byte leaves. -/
theorem enc_rel {w wr w1 : World} {B base n : Nat} {r r' : Value} {v : Nat} {x : Int} {o : Obj} (hb : Below B w wr) (hBb : B ≤ base) (hs : base ≤ wr.heap.size) (hown : wr.ownsRow base 5 1 r n (bl v n))
    (hown' : w1.ownsRow base 5 1 r' (n + 1) (bl v n ++ [.int .u8 x])) (hgrow : (wr.alloc o).grownBy w1 r.ownBlock) (hx : x = ((byt v n : Nat) : Int)) :
    w1.ownsRow base 5 1 r' (n + 1) (bl v (n + 1)) ∧ Below B w w1 ∧ Below base wr w1 ∧ base ≤ w1.heap.size := by
  subst hx
  rw [bl_succ] at hown'
  refine ⟨hown', (hb.alloc (by omega) o).grown hgrow (by simp only [World.size_alloc]; omega) (fun j hj => Nat.le_trans hBb (hown.lt j hj).1),
    ((Below.refl _ _).alloc hs o).grown hgrow (by simp only [World.size_alloc]; omega) (fun j hj => (hown.lt j hj).1), ?_⟩
  have := hgrow.size
  simp only [World.size_alloc] at this
  omega
/-- A slice of n bytes of its own. -/
theorem out_of {w : World} {base n v : Nat} {r : Value} (h : w.ownsRow base 5 1 r n (bl v n)) (hn : 0 < n) :
    ∃ g c, r = .slice (some ⟨g, 0, none⟩) n c ∧ base ≤ g ∧ n ≤ c ∧ BytesAt w g 0 n (byt v) := by
  rcases h.2 with ⟨_, h0⟩ | ⟨g, cap, cur, rfl, hb, hg, hc, _⟩
  · omega
  · refine ⟨g, cap, rfl, hb, hc, byt_lt v, (h.lt g rfl).2, fun j hj => ?_⟩
    have := h.cells (g := g) rfl j _ (bl_get v n j hj)
    have e : (⟨g, 0, none⟩ : Addr).add j = ⟨g, 0 + j, none⟩ := by unfold Addr.add; split <;> simp_all
    rwa [e] at this
theorem size_u64' (w : World) : (sizeOf 46).run Tryz.prog w = .ok 1 w := by kernel_rfl
/-- Word k of a vector that stands in the frame. -/
theorem run_index_vec (v k : Nat) (hk : k < 4) (w : World) : (Instr.index 47 (vec v) (.int .i64 (k : Int))).run Tryz.prog w = .ok (.int .u64 ((dg k v : Nat) : Int)) w := by
  have h : k = 0 ∨ k = 1 ∨ k = 2 ∨ k = 3 := by omega
  rcases h with rfl | rfl | rfl | rfl <;> (unfold vec; simp [Instr.index, asIntOf, run_underlying Tryz.underlying47, part, Sem.run_bind, isAgg, run_underlying Tryz.underlying46, size_u64'])
theorem wpList_index_of {P : Program} {ops : Array Oper} {rest : List Oper} {o : Oper} {a : Act} {w : World} {Q : Exit → Act → World → Prop} (hgd : o.guard = none) (ty : TypeId) (x ix : Operand) (ho : o.op = .index ty x ix)
    (p i v : Value) (hx : a.eval x = p) (hi : a.eval ix = i) (hv : (Instr.index ty p i).run P w = .ok v w) (h : wpList P ops Q rest (a.put o.dst v) w) : wpList P ops Q (o :: rest) a w :=
  wpList_plain hgd fun K hK => by
    unfold Oper.wp execOp
    simp only [ho, hx, hi, Sem.run_bind, Sem.run_pure, Result.andThen_ok, hv]
    exact hK _ _ h
theorem enc_byte (v i k : Nat) (hi : i < 4) (hk : k < 8) : IntKind.u8.wrap (((dg i v : Nat) : Int) / 2 ^ (8 * k)) = ((byt v (8 * i + k) : Nat) : Int) := by
  rw [← byt_dg v i k hk]
  unfold byt
  rw [IntKind.wrap_u8]
  have e : (2 : Nat) ^ (8 * k) = 256 ^ k := by rw [Nat.pow_mul]
  rw [← e, show ((2 : Int) ^ (8 * k)) = ((2 ^ (8 * k) : Nat) : Int) from (Int.natCast_pow 2 _).symm]
  generalize 2 ^ (8 * k) = m
  omega
set_option maxRecDepth 100000 in
set_option maxHeartbeats 8000000 in
theorem encode_walk (s : Bool) (x v : Nat) (hf : Hid (∀ w, Calls Tryz.prog 172 #[fieldV s, vec x] w fun e w' => e = .returned (vec v) ∧ Below w.heap.size w w')) (w : World) :
    Calls Tryz.prog 154 #[fieldV s, vec x] w fun e w' => (∃ r, e = .returned r ∧ w'.ownsRow w.heap.size 5 1 r 32 (bl v 32)) ∧ Below w.heap.size w w' := by
  obtain ⟨i0, hi, hz0, hz1, hz2⟩ := info_parts infoByte
  have Hi := Lib.hid hi
  have Hz0 := Lib.hid hz0
  have Hz1 := Lib.hid hz1
  have Hz2 := Lib.hid hz2
  clear hi hz0 hz1 hz2
  go_enter Tryz.func154, Tryz.ntmps154
  go_wp2_with fail
  refine Calls.mono (hf.out _) ?_
  rintro _ w1 ⟨rfl, h1⟩
  obtain ⟨c1, f1, s1⟩ := bfacts h1
  try simp only [World.size_alloc, World.size_setCell, size_drew, size_drewN] at s1
  have l_w_w1_0 : w.heap.size < w1.heap.size := by omega
  have l_w_w1_1 : w.heap.size + 1 < w1.heap.size := by omega
  have hB0 : Below w.heap.size w w1 := by
    have := h1
    exact Below.trans (by repeat first | with_reducible exact Below.refl _ _ | with_reducible refine Below.drew ?_ | with_reducible refine below_dN ?_ | with_reducible refine Below.alloc ?_ (by first | omega | (simp; done) | (simp; omega)) _ | with_reducible refine Below.setCell ?_ (by first | omega | (simp; done) | (simp; omega)) _ | with_reducible refine Below.trans ?_ (Below.mono (by assumption) (by first | omega | (simp; done) | (simp; omega)))) (Below.mono h1 (by simp only [World.size_alloc, size_drew]; omega))
  have Hs := Lib.hid hB0.size
  have HB0 := Lib.hid hB0
  clear hB0 c1 f1 h1
  go_wp2_with fail
  go_loopw [5, 12] (fun r i wr => ∃ k : Nat, k ≤ 4 ∧ i = .int .i64 (k : Int) ∧ wr.ownsRow w.heap.size 5 1 r (8 * k) (bl v (8 * k)) ∧ Below w.heap.size w wr) (fun _ i _ => 4 - (intOf i).toNat)
  case atStart => exact ⟨0, by omega, rfl, World.ownsRow_nil _ _ _ _, HB0.out⟩
  case round =>
    obtain ⟨k, hk, rfl, hown, hbel⟩ := hrel
    have Hown := Lib.hid hown
    have Hbel := Lib.hid hbel
    clear hown hbel
    by_cases hlt : k < 4
    · go_wp2_with (refine wpList_index_of rfl 47 (.tmp 11) (.tmp 12) rfl (vec v) (.int .i64 (k : Int)) (.int .u64 ((dg k v : Nat) : Int)) rfl rfl (run_index_vec v k hlt _) ?_; simp only [Act.put, sA, sB, sC, sD])
      have hdk : decide ((k : Int) < 4) = true := decide_eq_true (by omega)
      simp only [hdk]
      clear hdk
      go_loopw [5, 15] (fun r j wr => ∃ n : Nat, n ≤ 8 ∧ j = .int .i64 (n : Int) ∧ wr.ownsRow w.heap.size 5 1 r (8 * k + n) (bl v (8 * k + n)) ∧ Below w.heap.size w wr) (fun _ j _ => 8 - (intOf j).toNat)
      case atStart => exact ⟨0, by omega, rfl, Hown.out, Hbel.out⟩
      case round =>
        obtain ⟨n, hn, rfl, hown, hbel⟩ := hrel
        have Hown2 := Lib.hid hown
        have Hbel2 := Lib.hid hbel
        clear hown hbel
        by_cases hlt2 : n < 8
        · have hq := enc_byte v k n hlt hlt2
          go_wp2_with (at_builtin; refine wpList_append_own _ rfl (.tmp 18) (.tmp 24) 42 rfl w.heap.size 5 i0 (.int .u8 0) 1 1 Tryz.underlying42 Hi.out Hz0.out Hz1.out Hz2.out rfl (by decide) _ _ _ rfl (Hown2.out.alloc _) ⟨wr.heap.size, 0, none⟩ 1 1 [.int .u8 ((byt v (8 * k + n) : Nat) : Int)] rfl rfl (cell_one_new _ _ _) (one_byte _) (by unfold maxLen; omega) (by omega) (by have := Hbel2.out.size; simp only [World.size_alloc]; omega) ?_; intro r' w1' hown' hgrow' _)
          obtain ⟨R1, R2, _, _⟩ := enc_rel Hbel2.out (Nat.le_refl _) Hbel2.out.size Hown2.out hown' hgrow' rfl
          have R1' := Lib.hid R1
          have R2' := Lib.hid R2
          clear R1 R2 hown' hgrow' hq
          go_wp2_with fail
          go_roundw
          case rel => exact ⟨n + 1, by omega, by go_num, R1'.out, R2'.out⟩
          case measure => simp [intOf]; omega
        · obtain rfl : n = 8 := by omega
          go_wp2_with fail
          go_roundw
          case rel => exact ⟨k + 1, by omega, by go_num, Hown2.out, Hbel2.out⟩
          case measure => simp [intOf]; omega
    · obtain rfl : k = 4 := by omega
      go_wp2_with fail
      go_ret
      exact ⟨⟨_, rfl, Hown.out⟩, Hbel.out⟩
end Go.Proofs.YtdnkkbmpefhbjaaGreatDoor
namespace Go.Proofs.YtdnkkbmpefhbjaaGreatDoor
set_option linter.all false
open Go Go.RowKit
end Go.Proofs.YtdnkkbmpefhbjaaGreatDoor
namespace Go.Proofs.YtdnkkbmpefhbjaaGreatDoor
set_option linter.all false
open Go Go.RowKit
/-- Encode's contract, the slice laid open. -/
theorem encode_c (s : Bool) (v : Nat) (hv : v < pr s) (w : World) :
    Calls Tryz.prog 154 #[fieldV s, vec (RR s v)] w fun e w' => (∃ g c, e = .returned (.slice (some ⟨g, 0, none⟩) 32 c) ∧ w.heap.size ≤ g ∧ 32 ≤ c ∧ BytesAt w' g 0 32 (byt v)) ∧ Below w.heap.size w w' := by
  refine (encode_walk s (RR s v) v (Lib.hid (fromR_c s v hv)) w).mono ?_
  rintro e w' ⟨⟨r, rfl, hown⟩, hb⟩
  obtain ⟨g, c, rfl, hg, hc, hB⟩ := out_of hown (by omega)
  exact ⟨⟨g, c, rfl, hg, hc, hB⟩, hb⟩
/-- The bytes of v from m on are zero. -/
def Zf (v m : Nat) : Prop := ∀ j, m ≤ j → j < 32 → byt v j = 0
/-- The or of the first k bytes behind m. -/
def orb (v m : Nat) : Nat → Nat | 0 => 0 | k + 1 => orb v m k ||| byt v (m + k)
theorem orb_lt (v m : Nat) : ∀ k, orb v m k < W | 0 => W_pos | k + 1 => or_lt_W (orb_lt v m k) (Nat.lt_trans (byt_lt _ _) (by decide))
theorem orb_zero {v m : Nat} : ∀ {k}, orb v m k = 0 ↔ ∀ j, j < k → byt v (m + j) = 0
  | 0 => ⟨fun _ j hj => by omega, fun _ => rfl⟩
  | k + 1 => by
    constructor
    · intro h j hj
      obtain ⟨h1, h2⟩ := or_zero h
      by_cases e : j = k
      · subst e; exact h2
      · exact orb_zero.1 h1 j (by omega)
    · intro h
      show orb v m k ||| byt v (m + k) = 0
      rw [orb_zero.2 (fun j hj => h j (by omega)), h k (by omega)]
      rfl
theorem orb_Zf {v m : Nat} (hm : m ≤ 32) : orb v m (32 - m) = 0 ↔ Zf v m := by
  rw [orb_zero]
  exact ⟨fun h j h1 h2 => by have := h (j - m) (by omega); rwa [show m + (j - m) = j by omega] at this, fun h j hj => h _ (by omega) (by omega)⟩
theorem orb_step (v m k : Nat) : bits BinOp.or IntKind.u64 ((orb v m k : Nat) : Int) (IntKind.u64.wrap ((byt v (m + k) : Nat) : Int)) = ((orb v m (k + 1) : Nat) : Int) := by
  have h := byt_lt v (m + k)
  have e : IntKind.u64.wrap ((byt v (m + k) : Nat) : Int) = ((byt v (m + k) : Nat) : Int) := by rw [IntKind.wrap_u64]; omega
  rw [e, u64_or_nat _ _ (orb_lt v m k) (Nat.lt_trans h (by decide))]
  rfl
set_option maxRecDepth 100000 in
set_option maxHeartbeats 2000000 in
theorem maskIsZero1_c (z B : Nat) (hz4 : z < W) (w : World) (hc : w.cell? ⟨B, 0, none⟩ = some (.int .u64 ((z : Nat) : Int))) :
    Calls Tryz.prog 155 #[.slice (some ⟨B, 0, none⟩) 1 1] w fun e w' => e = .returned (.int .u64 ((mb (isz z) : Nat) : Int)) ∧ w = w' := by
  have hor : bits BinOp.or IntKind.u64 0 ((z : Nat) : Int) = (z : Int) := by
    have := u64_or_nat 0 z W_pos hz4
    rwa [Nat.zero_or] at this
  have Hz := Lib.hid (isz_val hz4)
  go_enter Tryz.func155, Tryz.ntmps155
  go_wp2_with fail
  go_loopw [3, 8] (fun v i wr => ∃ (k : Nat), k ≤ 1 ∧ i = .int .i64 (k : Int) ∧ v = .int .u64 (((if k = 0 then 0 else z : Nat)) : Int) ∧ wr = w) (fun _ i _ => 1 - (intOf i).toNat)
  case atStart => exact ⟨0, by omega, rfl, rfl, rfl⟩
  case round =>
    obtain ⟨k, hk4, rfl, rfl, rfl⟩ := hrel
    by_cases hk : k < 1
    · obtain rfl : k = 0 := by omega
      go_wp2_with fail
      all_goals go_roundw
      case rel => exact ⟨1, by omega, by go_num, rfl, trivial⟩
      case measure => simp [intOf]
    · obtain rfl : k = 1 := by omega
      clear hor
      rw [if_neg (by decide)]
      go_wp2_with fail
      rw [Hz.out]
      refine Calls.mono (fromBit_c _ (isz_lt z) _) ?_
      rintro _ _ ⟨rfl, rfl⟩
      go_wp2_with fail
      exact bodyPost_ret (v := .int .u64 ((mb (isz z) : Nat) : Int)) (by simp only [results, Tryz.results155]; go_simp) rfl ⟨rfl, rfl⟩
set_option maxRecDepth 100000 in
set_option maxHeartbeats 8000000 in
theorem unpack_walk (s : Bool) (x v m : Nat) (hm : m ≤ 31) (w : World)
    (hen : Hid (∀ w, Calls Tryz.prog 154 #[fieldV s, vec x] w fun e w' => (∃ g c, e = .returned (.slice (some ⟨g, 0, none⟩) 32 c) ∧ w.heap.size ≤ g ∧ 32 ≤ c ∧ BytesAt w' g 0 32 (byt v)) ∧ Below w.heap.size w w')) :
    Calls Tryz.prog 125 #[fieldV s, vec x, .int .i64 (m : Int)] w fun e w' =>
      ((Zf v m ∧ ∃ g, e = .returned (.tuple #[.slice (some ⟨g, 0, none⟩) m m, .int .i64 0]) ∧ w.heap.size ≤ g ∧ BytesAt w' g 0 m (byt v)) ∨ (¬ Zf v m ∧ e = .returned (.tuple #[.slice none 0 0, .int .i64 10]))) ∧ Below w.heap.size w w' := by
  have h31 : ¬ 31 < (m : Int) := by omega
  have h32 : (m : Int) ≤ 32 := by omega
  go_enter Tryz.func125, Tryz.ntmps125
  go_wp2_with fail
  refine Calls.mono (hen.out _) ?_
  rintro _ w1 ⟨⟨g, c, rfl, hg, hc, hB⟩, h1⟩
  obtain ⟨c1, f1, s1⟩ := bfacts h1
  try simp only [World.size_alloc, World.size_setCell, size_drew, size_drewN] at s1
  have l_w_w1_0 : w.heap.size < w1.heap.size := by omega
  have l_w_w1_1 : w.heap.size + 1 < w1.heap.size := by omega
  have hc1 : (m : Int) ≤ (c : Int) := by omega
  have hc2 : (32 : Int) ≤ (c : Int) := by omega
  have Hg := Lib.hid hg
  have HB := Lib.hid hB
  clear hg hB
  go_wp2_with fail
  have hd0 : decide ((m : Int) < 0) = false := decide_eq_false (by omega)
  simp only [hd0]
  clear hd0 h31 h32 hc1 hc2
  have hl : ((32 - m : Nat) : Int) = 32 - (m : Int) := by omega
  go_loopw [9, 25] (fun r i wr => ∃ k : Nat, k ≤ 32 - m ∧ i = .int .i64 (k : Int) ∧ r = .int .u64 ((orb v m k : Nat) : Int) ∧ wr = w1) (fun _ i _ => 32 - m - (intOf i).toNat)
  case atStart => exact ⟨0, by omega, rfl, rfl, rfl⟩
  case round =>
    obtain ⟨k, hk, rfl, rfl, rfl⟩ := hrel
    by_cases hlt : k < 32 - m
    · have hcell := HB.out.cell (m + k) (by omega)
      rw [Nat.zero_add] at hcell
      have hq := orb_step v m k
      go_wp2_with fail
      go_roundw
      case rel => exact ⟨k + 1, by omega, by go_num, rfl, trivial⟩
      case measure => simp [intOf]; omega
    · obtain rfl : k = 32 - m := by omega
      have Hz := Lib.hid (orb_Zf (v := v) (m := m) (by omega))
      have Hz4 := Lib.hid (orb_lt v m (32 - m))
      have Hm := Lib.hid hm
      clear hlt hk hl hm
      generalize orb v m (32 - m) = z at Hz Hz4 ⊢
      have hc1 : (m : Int) ≤ (c : Int) := by have := Hm.out; omega
      by_cases h0 : z = 0
      · have hZ := Lib.hid (Hz.out.1 h0)
        subst h0
        go_wp2_with fail
        refine Calls.mono (maskIsZero1_c 0 wr.heap.size W_pos _ (by go_simp)) ?_
        rintro _ _ ⟨rfl, rfl⟩
        rw [show mb (isz 0) = 18446744073709551615 from rfl]
        go_wp2_with fail
        refine bodyPost_ret (v := .tuple #[.slice (some ⟨g, 0, none⟩) m m, .int .i64 0]) (by simp only [results, Tryz.results125]; go_simp) rfl ⟨.inl ⟨hZ.out, g, rfl, Nat.le_trans (by simp only [World.size_alloc]; omega) Hg.out, (HB.out.take m (by have := Hm.out; omega)).below ((Below.refl _ _).alloc (Nat.le_refl _) _)⟩, ?_⟩
        repeat first
          | with_reducible exact Below.refl _ _
          | with_reducible refine Below.drew ?_
          | with_reducible refine below_dN ?_
          | with_reducible refine Below.alloc ?_ (by first | omega | (simp; done) | (simp; omega)) _
          | with_reducible refine Below.setCell ?_ (by first | omega | (simp; done) | (simp; omega)) _
          | with_reducible refine Below.trans ?_ (Below.mono (by assumption) (by first | omega | (simp; done) | (simp; omega)))
      · have hZ := Lib.hid (fun h => h0 (Hz.out.2 h))
        have hmb : mb (isz z) = 0 := by unfold isz; rw [if_neg h0]; rfl
        clear h0
        go_wp2_with fail
        refine Calls.mono (maskIsZero1_c z wr.heap.size Hz4.out _ (by go_simp)) ?_
        rintro _ _ ⟨rfl, rfl⟩
        rw [hmb]
        go_wp2_with fail
        refine bodyPost_ret (v := .tuple #[.slice none 0 0, .int .i64 10]) (by simp only [results, Tryz.results125]; go_simp) rfl ⟨.inr ⟨hZ.out, rfl⟩, ?_⟩
        repeat first
          | with_reducible exact Below.refl _ _
          | with_reducible refine Below.drew ?_
          | with_reducible refine below_dN ?_
          | with_reducible refine Below.alloc ?_ (by first | omega | (simp; done) | (simp; omega)) _
          | with_reducible refine Below.setCell ?_ (by first | omega | (simp; done) | (simp; omega)) _
          | with_reducible refine Below.trans ?_ (Below.mono (by assumption) (by first | omega | (simp; done) | (simp; omega)))
end Go.Proofs.YtdnkkbmpefhbjaaGreatDoor
namespace Go.Proofs.YtdnkkbmpefhbjaaGreatDoor
set_option linter.all false
open Go Go.RowKit
end Go.Proofs.YtdnkkbmpefhbjaaGreatDoor
namespace Go.Proofs.YtdnkkbmpefhbjaaGreatDoor
set_option linter.all false
open Go.RowKit
end Go.Proofs.YtdnkkbmpefhbjaaGreatDoor
namespace Go.Proofs.YtdnkkbmpefhbjaaGreatDoor
set_option linter.all false
open Go.RowKit
/-- A power of 256, named. -/
def un (r : Nat) : Nat := 256 ^ r
end Go.Proofs.YtdnkkbmpefhbjaaGreatDoor
namespace Go.Proofs.YtdnkkbmpefhbjaaGreatDoor
set_option linter.all false
open Go.RowKit
end Go.Proofs.YtdnkkbmpefhbjaaGreatDoor
namespace Go.Proofs.YtdnkkbmpefhbjaaGreatDoor
set_option linter.all false
open Go.RowKit
theorem rdc_lt {p v : Nat} (h : v < p) : rdc p v 0 = v := by unfold rdc; rw [if_pos ⟨h, rfl⟩]
theorem rdc_ne {p v : Nat} (hp : 0 < p) (hv : v < R4) (h : ¬ v < p) : rdc p v 0 ≠ v ∧ rdc p v 0 < R4 := by
  have e : rdc p v 0 = v - p := by
    unfold rdc; rw [if_neg (fun hh => h hh.1)]
    unfold subV
    have : (R4 : Nat) = R4 := rfl
    generalize R4 = R at *
    rw [show v + R - p = (v - p) + R by omega, Nat.add_mod_right, Nat.mod_eq_of_lt (by omega)]
  rw [e]
  omega
end Go.Proofs.YtdnkkbmpefhbjaaGreatDoor
namespace Go.Proofs.YtdnkkbmpefhbjaaGreatDoor
set_option linter.all false
open Go Go.RowKit
/-- A slice of n bytes, nil and empty ones let in. -/
structure SliceAt (w : World) (a : Option Addr) (n : Nat) (f : Nat → Nat) : Prop where
  lt : ∀ j, f j < 256
  at_ : n = 0 ∨ ∃ b off, a = some ⟨b, off, none⟩ ∧ BytesAt w b off n f
theorem SliceAt.below {w w' : World} {a : Option Addr} {n : Nat} {f : Nat → Nat} (h : SliceAt w a n f) (hb : Below w.heap.size w w') : SliceAt w' a n f :=
  ⟨h.lt, h.at_.imp id fun ⟨b, off, e, hB⟩ => ⟨b, off, e, hB.below hb⟩⟩
theorem SliceAt.pos {w : World} {a : Option Addr} {n : Nat} {f : Nat → Nat} (h : SliceAt w a n f) (hn : 0 < n) : ∃ b off, a = some ⟨b, off, none⟩ ∧ BytesAt w b off n f := h.at_.resolve_left (by omega)
theorem BytesAt.slice {w : World} {b off n : Nat} {f : Nat → Nat} (h : BytesAt w b off n f) : SliceAt w (some ⟨b, off, none⟩) n f := ⟨h.lt, .inr ⟨b, off, rfl, h⟩⟩
def fl (f : Nat → Nat) (n : Nat) : List Value := (List.range n).map fun j => Value.int .u8 ((f j : Nat) : Int)
end Go.Proofs.YtdnkkbmpefhbjaaGreatDoor
namespace Go.Proofs.YtdnkkbmpefhbjaaGreatDoor
set_option linter.all false
open Go Go.RowKit Go.Shelf
/-- The number of chunks of n bytes. -/
def cn (n : Int) : Nat := if 0 ≤ n ∧ n ≤ 65535 then ((n + 30) / 31).toNat else 0
theorem valid_c (n : Int) (w : World) : Calls Tryz.prog 122 #[.int .i64 n] w fun e w' => e = .returned (.bool (decide (0 ≤ n ∧ n ≤ 65535))) ∧ w = w' := by
  by_cases h0 : 0 ≤ n
  · by_cases h1 : n ≤ 65535
    · skip
      go_enter Tryz.func122, Tryz.ntmps122
      go_wp2
      go_ret
      exact ⟨by simp [h0, h1], rfl⟩
    · skip
      go_enter Tryz.func122, Tryz.ntmps122
      go_wp2
      go_ret
      exact ⟨by simp [h0]; omega, rfl⟩
  · have hd : decide (0 ≤ n ∧ n ≤ 65535) = false := by simp; omega
    go_enter Tryz.func122, Tryz.ntmps122
    go_wp2
    go_ret
    exact ⟨rfl, rfl⟩
theorem count_c (n : Int) (w : World) : Calls Tryz.prog 123 #[.int .i64 n] w fun e w' => e = .returned (.int .i64 (cn n : Int)) ∧ w = w' := by
  by_cases h : 0 ≤ n ∧ n ≤ 65535
  · have hd : decide (0 ≤ n ∧ n ≤ 65535) = true := by simpa using h
    obtain ⟨h0, h1⟩ := h
    go_enter Tryz.func123, Tryz.ntmps123
    go_wp2_with fail
    refine Calls.mono (valid_c n _) ?_
    rintro _ _ ⟨rfl, rfl⟩
    rw [hd]
    go_wp2_with fail
    go_ret
    refine ⟨?_, rfl⟩
    rw [show (cn n : Int) = (n + 30) / 31 by unfold cn; rw [if_pos ⟨h0, h1⟩]; omega]
    rw [show n + 31 - 1 = n + 30 by omega]
    rfl
  · have hd : decide (0 ≤ n ∧ n ≤ 65535) = false := by simpa using h
    have hc : cn n = 0 := by unfold cn; rw [if_neg h]
    go_enter Tryz.func123, Tryz.ntmps123
    go_wp2_with fail
    refine Calls.mono (valid_c n _) ?_
    rintro _ _ ⟨rfl, rfl⟩
    rw [hd]
    go_wp2_with fail
    go_ret
    exact ⟨by rw [hc]; rfl, rfl⟩
theorem bounds_c (n : Int) (w : World) : Calls Tryz.prog 124 #[.int .i64 n] w fun e w' =>
    e = .returned (.func (.func 153) #[] #[.pointer (some ⟨w.heap.size, 0, none⟩)]) ∧ w' = w.alloc (.cells #[.int .i64 n] 3) := by
  go_enter Tryz.func124, Tryz.ntmps124
  go_wp2
  go_ret
  exact ⟨rfl, rfl⟩
/-- The number of bytes of chunk i. -/
def cz (n i : Nat) : Nat := min 31 (n - 31 * i)
theorem cell?_block {w w' : World} {k : Nat} (h : w'.heap[k]? = w.heap[k]?) (j : Nat) : w'.cell? ⟨k, j, none⟩ = w.cell? ⟨k, j, none⟩ := by simp only [World.cell?, h]
theorem cn_lo {n k : Nat} (hn : n ≤ 65535) (hk : k < cn n) : 31 * k < n := by
  unfold cn at hk
  split at hk <;> omega
/-- The first k numbers below N. -/
def upF (N k : Nat) : List (Fin N) := (List.finRange N).take k
theorem upF_len {N k : Nat} (h : k ≤ N) : (upF N k).length = k := by simp [upF]; omega
theorem upF_succ {N k : Nat} (h : k < N) : upF N (k + 1) = upF N k ++ [⟨k, h⟩] := by
  unfold upF
  rw [List.take_succ_eq_append_getElem (by simpa using h)]
  simp
theorem upF_all (N : Nat) : upF N N = List.finRange N := by unfold upF; exact List.take_of_length_le (by simp)
theorem upF_map {α : Type} (N : Nat) (g : Nat → α) : (upF N N).map (fun i => g i.val) = (List.range N).map g := by
  rw [upF_all]
  apply List.ext_getElem
  · simp
  · intro i h1 h2
    simp
set_option maxRecDepth 100000 in
set_option maxHeartbeats 1000000 in
theorem bounds1_in (m : Nat) (hm : 2 ≤ m) (l n Bn : Nat) (hn : n ≤ 65535) (J Jx : List (Fin (cn n)) → World → Prop)
    (hY : ∀ pre x W, J pre W → pre.length < cn n → YieldAt Fence.wide (m - 1) Tryz.prog l #[.int .i64 ((x.val : Nat) : Int), .int .i64 ((cz n x.val : Nat) : Int)] W fun e W' =>
      (e = .returned (.bool true) ∧ J (pre ++ [x]) W' ∧ W'.heap[Bn]? = W.heap[Bn]?) ∨ (e = .returned (.bool false) ∧ Jx (pre ++ [x]) W'))
    (W : World) (hc : W.cell? ⟨Bn, 0, none⟩ = some (.int .i64 (n : Int))) (h0 : J [] W) :
    CallsIn Fence.wide m Tryz.prog 153 #[.func (.yield l) #[] #[], .pointer (some ⟨Bn, 0, none⟩)] W fun e W' => (∃ v, e = .returned v) ∧
      ((∃ ys, ys = upF (cn n) (cn n) ∧ J ys W') ∨ (∃ pre, (∃ k, k ≤ cn n ∧ pre = upF (cn n) k) ∧ Jx pre W')) := by
  have hcn : cn n ≤ 2115 := by unfold cn; split <;> omega
  refine callsIn_of_wp Tryz.func153 rfl trivial ?_ rfl
  simp only [Tryz.ntmps153, List.size_toArray, List.length_cons, List.length_nil, Nat.reduceAdd, Nat.reduceSub, Array.replicate_succ, Array.replicate_zero, List.push_toArray, List.append_toArray, List.nil_append, List.cons_append]
  gi_wp2
  refine ⟨trivial, ?_⟩
  try (refine ⟨(fun h => by cases h), ?_⟩)
  refine CallsIn.mono (callsIn_wide.2 (count_c _ _)) ?_
  rintro _ _ ⟨rfl, rfl⟩
  gi_wp2
  gi_loopw [6] (fun i wr => ∃ k : Nat, k ≤ cn n ∧ i = .int .i64 (k : Int) ∧ J (upF (cn n) k) wr ∧ wr.heap[Bn]? = W.heap[Bn]?) (fun i _ => cn n - (intOf i).toNat)
  case atStart => exact ⟨0, Nat.zero_le _, rfl, h0, rfl⟩
  case round =>
    obtain ⟨k, hk, rfl, hJs, hb⟩ := hrel
    have hcx := (cell?_block hb 0).trans hc
    have HB := Lib.hid hb
    clear hb
    by_cases hlt : k < cn n
    · obtain ⟨fn, tmps, assign, body, hy, hR⟩ := hY _ ⟨k, hlt⟩ wr hJs (by rw [upF_len hk]; exact hlt)
      have h31 := cn_lo hn hlt
      dsimp only at hy
      have hcz : min (31 : Int) ((n : Int) - (k : Int) * 31) = ((cz n k : Nat) : Int) := by unfold cz; omega
      gi_wp2
      refine ⟨(fun h => by cases h), hR.mono ?_⟩
      rintro e W3 (⟨rfl, hJ3, hk3⟩ | ⟨rfl, hJx3⟩)
      · gi_wp2
        go_roundw
        case rel => exact ⟨k + 1, by omega, by go_num, by rw [upF_succ hlt]; exact hJ3, hk3.trans HB.out⟩
        case measure => simp [intOf]; omega
      · gi_wp2
        refine bodyPost_ret (results_none rfl _ _ _) rfl ?_
        exact ⟨⟨_, rfl⟩, .inr ⟨_, ⟨k + 1, by omega, (upF_succ hlt).symm⟩, hJx3⟩⟩
    · obtain rfl : k = cn n := by omega
      gi_wp2
      go_end0
      exact ⟨⟨_, rfl⟩, .inl ⟨_, rfl, hJs⟩⟩
/-- The block of the iterator's bound lies as it lay. -/
def KB (Bn : Nat) (A B : World) : Prop := B.heap[Bn]? = A.heap[Bn]?
theorem KB_t {Bn : Nat} {A B C : World} (h : KB Bn A B) (k : KB Bn B C) : KB Bn A C := Eq.trans k h
theorem KB_b {Bn s : Nat} (hB : Bn < s) (W : World) (l : Nat) (o o' : Obj) (hl : s ≤ l) (_ : W.heap[l]? = some o) (_ : o.isCells = false) (_ : o.isWalk = false) : KB Bn W (W.putObj l o') :=
  World.putObj_heap_other (by omega)
theorem bounds_stops (m : Nat) (hm : 2 ≤ m) (n Bn : Nat) (hn : n ≤ 65535) (w : World) (hB : Bn < w.heap.size) (hc : w.cell? ⟨Bn, 0, none⟩ = some (.int .i64 (n : Int))) :
    SeqStopsK Fence.wide m Tryz.prog 153 #[.pointer (some ⟨Bn, 0, none⟩)] (fun i : Fin (cn n) => #[.int .i64 ((i.val : Nat) : Int), .int .i64 ((cz n i.val : Nat) : Int)]) (KB Bn) (fun xs => xs = upF (cn n) (cn n)) (fun pre => ∃ k, k ≤ cn n ∧ pre = upF (cn n) k) (cn n) w :=
  fun l J Jx W hW _ _ hY h0 => bounds1_in m hm l n Bn hn J Jx hY W ((hW.cell (p := ⟨Bn, 0, none⟩) hB).trans hc) h0
end Go.Proofs.YtdnkkbmpefhbjaaGreatDoor
