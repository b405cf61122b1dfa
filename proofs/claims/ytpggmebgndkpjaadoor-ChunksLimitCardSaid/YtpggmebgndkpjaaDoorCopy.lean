/- copy of bytes into a row that is known whole. -/
import Derived.Test.YtpggmebgndkpjaaDoorSyn
import Derived.Laws.CopyOwn
namespace Go.Proofs.YtpggmebgndkpjaaDoor
set_option linter.all false
open Go Go.RowKit

theorem elB_app (l m : List Nat) : el bc l ++ el bc m = el bc (l ++ m) := el_app
theorem elB_take (l : List Nat) (k : Nat) : (el bc l).take k = el bc (l.take k) := by
  have e1 : ∀ L : List Nat, el bc L = L.map fun x => Value.int .u8 ((x : Nat) : Int) := fun L => by
    induction L with
    | nil => rfl
    | cons y m ih => simp only [el, List.flatMap_cons, List.map_cons] at ih ⊢; rw [ih]; rfl
  rw [e1, e1, List.map_take]
theorem elB_drop (l : List Nat) (k : Nat) : (el bc l).drop k = el bc (l.drop k) := by
  have e1 : ∀ L : List Nat, el bc L = L.map fun x => Value.int .u8 ((x : Nat) : Int) := fun L => by
    induction L with
    | nil => rfl
    | cons y m ih => simp only [el, List.flatMap_cons, List.map_cons] at ih ⊢; rw [ih]; rfl
  rw [e1, e1, List.map_drop]
/-- Bytes behind a copy. -/
def cpyB (l : List Nat) (off : Nat) (m : List Nat) : List Nat := l.take off ++ m ++ l.drop (off + m.length)
theorem cpyB_len {l m : List Nat} {off : Nat} (h : off + m.length ≤ l.length) : (cpyB l off m).length = l.length := by simp [cpyB]; omega
theorem cpyB_lt {l m : List Nat} {off : Nat} (hl : ∀ x ∈ l, x < 256) (hm : ∀ x ∈ m, x < 256) : ∀ x ∈ cpyB l off m, x < 256 := by
  intro x hx
  unfold cpyB at hx
  rcases List.mem_append.1 hx with hx | hx
  · rcases List.mem_append.1 hx with hx | hx
    · exact hl x (List.mem_of_mem_take hx)
    · exact hm x hx
  · exact hl x (List.mem_of_mem_drop hx)
section
variable {r : Option Nat} {n N : Nat} {P : Program} {ops : Array Oper} {Q : Exit → Act → World → Prop} {rest : List Oper} {G : List (Nat × Value)} {a : Act} {F0 : Nat → Prop} {W w : World} {M R : List Res}
  {d T : Nat} {p : String} {e : Array Edge} {g : Option (Nat × Bool)} {x y : Operand} {tx ty t te b nb : Nat}
theorem q_cpy {dp sp : Option Addr} {m dc k sc off : Nat} {l ls : List Nat} (hk : Kn N G a) (hs : Sat F0 W (blk b (el bc l) t :: M) R w) (hx : evq G x = some (.slice dp m dc)) (hy : evq G y = some (.slice sp k sc))
    (hu : P.underlying tx = some (.slice te)) (ht : tq P te = some (false, 1, nb)) (hdst : 0 < m → dp = some ⟨b, off, none⟩) (hfit : off + m ≤ l.length) (hsrc : LstAt w 1 (.slice sp k sc) k (el bc ls))
    (hd : Nat.ble (d + 1) N = true) (hg : wq ops G g = some true)
    (h : ∀ w a, Kn N ((d, .int .i64 ((min k m : Nat) : Int)) :: G) a → Sat F0 W (blk b (el bc (cpyB l off (ls.take (min k m)))) t :: M) R w → wpListIn (Fr r) n P ops Q rest a w) :
    wpListIn (Fr r) n P ops Q (⟨some d, .call ⟨.builtin .copy, #[x, y], #[tx, ty]⟩, T, p, e, g⟩ :: rest) a w := by
  have hls : k = ls.length := by have := hsrc.len; rw [el_len bc_len] at this; omega
  have hsz : (P.info? te).map (·.size) = some 1 := by
    unfold tq at ht
    split at ht
    · rename_i i dd hi hd
      simp only [Option.some.injEq, Prod.mk.injEq] at ht
      rw [hi, Option.map_some, ht.2.1]
    · cases ht
  have hmin : (ls.take (min k m)).length = min k m := by rw [List.length_take]; omega
  by_cases h0 : min k m = 0
  · have hr := run_copy_none (P := P) w tx ty T te dp sp m dc k sc hu hsz h0
    refine q_val hk (v := .int .i64 ((min k m : Nat) : Int)) (w' := w) (.of2 hx hy fun ev h1 h2 => ?_) hd rfl hg fun a hk => h w a hk ?_
    · simp only [execOp, resolve, invoke, builtin, Sem.run_bind, Sem.run_pure, Result.andThen_ok, List.map_toArray, List.map_cons, List.map_nil, h1, h2, hr, h0]
      rfl
    · have e : cpyB l off (ls.take (min k m)) = l := by unfold cpyB; rw [h0]; simp
      rw [e]; exact hs
  · have hdp := hdst (by omega)
    have hsp := lst_some hsrc (by omega)
    obtain ⟨a', c', he, _, _, hc⟩ := hsrc.at_
    cases he
    have hcell : ∀ j v, (el bc (ls.take (min k m)))[j]? = some v → w.cell? ((adq sp).add j) = some v := fun j v hj => by
      refine (hc _ hsp (by omega)).2.2 j v ?_
      rw [← elB_take, List.getElem?_take] at hj
      split at hj
      · exact hj
      · cases hj
    have h0b := hs.okM _ (.head _)
    have hr := run_copy_row (P := P) w tx ty T te b off m dc (adq sp) k sc (el bc l).toArray t (el bc (ls.take (min k m))) hu hsz h0b (by rw [el_len bc_len, hmin, Nat.mul_one]) hcell (by rw [el_len bc_len, hmin]; simp [el_len bc_len]; omega) (ones_spec (el_ones bc_ones))
    rw [← hdp, ← hsp] at hr
    have e : (el bc l).toArray.toList.take off ++ el bc (ls.take (min k m)) ++ (el bc l).toArray.toList.drop (off + (el bc (ls.take (min k m))).length) = el bc (cpyB l off (ls.take (min k m))) := by
      rw [el_len bc_len, Nat.mul_one]
      unfold cpyB
      rw [← elB_app, ← elB_app, elB_take, elB_drop]
    rw [e] at hr
    refine q_val hk (v := .int .i64 ((min k m : Nat) : Int)) (w' := w.setRow b (el bc (cpyB l off (ls.take (min k m)))).toArray) (.of2 hx hy fun ev h1 h2 => ?_) hd rfl hg fun a hk => h _ a hk hs.setRow
    simp only [execOp, resolve, invoke, builtin, Sem.run_bind, Sem.run_pure, Result.andThen_ok, List.map_toArray, List.map_cons, List.map_nil, h1, h2, hr]
    rw [el_len bc_len, hmin, Nat.mul_one]
    rfl
end
end Go.Proofs.YtpggmebgndkpjaaDoor
