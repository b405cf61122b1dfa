/- Arguments that came in: parameters, lists of events. -/
import Derived.Test.YtpggmebgndkpjaaDoorOpen
import Derived.Test.YtpggmebgndkpjaaDoorRowKit
import Derived.Test.YtpggmebgndkpjaaDoorTapeW
namespace Go.Proofs.YtpggmebgndkpjaaDoor
set_option linter.all false
open Go Go.ChangeShapes Go.WideShapes Go.ChangeAt Go.WideMaps Go.WideElems Go.RowKit

theorem cellsParams : Tryd.prog.cellsOf 23 = 4 := by kernel_rfl
theorem cellsEvent : Tryd.prog.cellsOf 36 = 3 := by kernel_rfl
section
variable {H : Type} {enc : TypeId × Value → H} {w : World} {held : Bool} {P : Program}
set_option maxRecDepth 100000 in
/-- Parameters that came in. -/
theorem open_params {b0 : Nat} {r : Reach} {v : Value} {d : DataW H} {p : List MemPlace} (hv : Value.okWide Tryd.prog w r b0 23 v) (h : DataW.Trod enc Tryd.prog w 0 (fun _ => true) held 23 v d p) :
    ∃ (F T N L : Int), v = .agg #[.int .i64 F, .int .i64 T, .int .i64 N, .int .i64 L] ∧ (Lit.int .i64 F).wf = true ∧ (Lit.int .i64 T).wf = true ∧ (Lit.int .i64 N).wf = true ∧ (Lit.int .i64 L).wf = true := by
  have hk : ∃ cs, v = .agg cs := by
    simp only [Value.okWide, Tryd.underlying23] at hv
    obtain ⟨cs, h1, _⟩ := hv
    exact ⟨cs, h1⟩
  obtain ⟨cs, rfl⟩ := hk
  obtain ⟨fuel, hf⟩ := h
  have hf' : DataW.trod enc Tryd.prog w 0 (fun _ => true) held fuel 23 cs.toList = some (d, p) := hf
  obtain ⟨xs, m, rfl, hx, hlen, hn, hel⟩ := DataW.trod_struct Tryd.underlying23 hf'
  rw [cellsParams] at hlen
  have hcs : cs = cs.toList.toArray := by simp
  generalize cs.toList = l at *
  subst hcs
  match l, hlen with
  | [c0, c1, c2, c3], _ =>
    match xs, hn with
    | [x0, x1, x2, x3], _ =>
      have e0 := hel 0 { name := "Field", type := 3, offset := 0, embedded := false, tag := "", pkgPath := "", byteOffset := 0 } rfl
      have e1 := hel 1 { name := "Threshold", type := 3, offset := 1, embedded := false, tag := "", pkgPath := "", byteOffset := 8 } rfl
      have e2 := hel 2 { name := "Shares", type := 3, offset := 2, embedded := false, tag := "", pkgPath := "", byteOffset := 16 } rfl
      have e3 := hel 3 { name := "Length", type := 3, offset := 3, embedded := false, tag := "", pkgPath := "", byteOffset := 24 } rfl
      simp only [cellsInt, List.drop_zero, List.drop_succ_cons, List.take_succ_cons, List.take_zero, List.getElem?_cons_zero, List.getElem?_cons_succ] at e0 e1 e2 e3
      obtain ⟨F, f0, _, w0⟩ := DataW.trod_int Tryd.underlying3 e0
      obtain ⟨T, f1, _, w1⟩ := DataW.trod_int Tryd.underlying3 e1
      obtain ⟨I, f2, _, w2⟩ := DataW.trod_int Tryd.underlying3 e2
      obtain ⟨L, f3, _, w3⟩ := DataW.trod_int Tryd.underlying3 e3
      simp only [List.cons.injEq, and_true] at f0 f1 f2 f3
      subst f0 f1 f2 f3
      exact ⟨F, T, I, L, rfl, w0, w1, w2, w3⟩
set_option maxRecDepth 100000 in
theorem event_of {fuel : Nat} {cs : List Value} {d : DataW H} {p : List MemPlace} (hf : DataW.trod enc Tryd.prog w 0 (fun _ => true) held fuel 36 cs = some (d, p)) : ∃ x : Ev, True ∧ cs = ec x := by
  obtain ⟨xs, m, rfl, hx, hlen, hn, hel⟩ := DataW.trod_struct Tryd.underlying36 hf
  rw [cellsEvent] at hlen
  match cs, hlen with
  | [c0, c1, c2], _ =>
    match xs, hn with
    | [x0, x1, x2], _ =>
      have e0 := hel 0 { name := "Kind", type := 3, offset := 0, embedded := false, tag := "", pkgPath := "", byteOffset := 0 } rfl
      have e1 := hel 1 { name := "A", type := 3, offset := 1, embedded := false, tag := "", pkgPath := "", byteOffset := 8 } rfl
      have e2 := hel 2 { name := "B", type := 3, offset := 2, embedded := false, tag := "", pkgPath := "", byteOffset := 16 } rfl
      simp only [cellsInt, List.drop_zero, List.drop_succ_cons, List.take_succ_cons, List.take_zero, List.getElem?_cons_zero, List.getElem?_cons_succ] at e0 e1 e2
      obtain ⟨F, f0, _, _⟩ := DataW.trod_int Tryd.underlying3 e0
      obtain ⟨T, f1, _, _⟩ := DataW.trod_int Tryd.underlying3 e1
      obtain ⟨I, f2, _, _⟩ := DataW.trod_int Tryd.underlying3 e2
      simp only [List.cons.injEq, and_true] at f0 f1 f2
      subst f0 f1 f2
      exact ⟨(F, T, I), trivial, rfl⟩
/-- Events that came in. -/
theorem open_evs {a : Option Addr} {n cap : Nat} {d : DataW H} {p : List MemPlace} (h : DataW.Trod enc Tryd.prog w 0 (fun _ => true) held 26 (.slice a n cap) d p) : ∃ l : List Ev, True ∧ LstAt w 3 (.slice a n cap) n (el ec l) := by
  obtain ⟨f, _, hL⟩ := open_lst (c := ec) (φ := fun _ => True) Tryd.underlying26 cellsEvent (by decide) ec_len evz (fun fuel cs d p hf => event_of hf) h
  exact ⟨(List.range n).map f, trivial, by rw [← en_el]; exact hL⟩
end
end Go.Proofs.YtpggmebgndkpjaaDoor
