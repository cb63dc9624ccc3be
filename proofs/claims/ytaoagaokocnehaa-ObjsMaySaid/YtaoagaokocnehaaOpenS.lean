/-
  Arguments that are states or operations, opened.
-/
import Derived.Test.YtaoagaokocnehaaRows
import Derived.Test.YtaoagaokocnehaaIn
import Derived.Test.YtaoagaokocnehaaOpen
import Derived.Test.YtaoagaokocnehaaO
import Derived.Lib.SmallJoins
import Derived.WalkKit
import Derived.ProofKit
import Derived.OpenShut
namespace Go.Proofs.Ytaoagaokocnehaa
set_option linter.unusedVariables false
set_option linter.unusedSimpArgs false
open Go.ChangeShapes Go.WideShapes Go.ChangeAt Go.RowKit Go.Deep

section
variable {H : Type} {enc : TypeId × Value → H}

theorem open_ints_row {W : World} {fuel : Nat} {c : Value} {x : DataW H × List MemPlace} (h : DataW.trod enc Try.prog W 0 (fun _ => true) true fuel 22 [c] = some x) :
    ∃ a len cap zs, c = .slice a len cap ∧ IsRow .i64 W a len cap zs := by
  rcases open_ints Try.underlying22 Try.underlying3 (by kernel_rfl) h with ⟨hcs, _⟩ | ⟨x, l, c, zs, hcs, _, hl, hm, hz, _, hcell, hwz⟩
  · simp at hcs
    exact ⟨_, _, _, [], hcs, .inl ⟨rfl, rfl, rfl, rfl⟩⟩
  · simp at hcs
    exact ⟨_, _, _, zs, hcs, .inr ⟨_, rfl, hl, hm, by simpa using hz, hcell, hwz⟩⟩

theorem Try.cells_state : Try.prog.cellsOf 24 = 4 := by kernel_rfl
theorem Try.cells_op : Try.prog.cellsOf 26 = 3 := by kernel_rfl
theorem Try.cells_int : Try.prog.cellsOf 3 = 1 := by kernel_rfl
theorem Try.cells_bool : Try.prog.cellsOf 4 = 1 := by kernel_rfl
theorem Try.cells_ints : Try.prog.cellsOf 22 = 1 := by kernel_rfl

theorem open_state {W : World} {v : Value} {d : DataW H} {ps : List MemPlace} (hok : Value.okWide Try.prog W .any 0 24 v) (hT : DataW.Trod enc Try.prog W 0 (fun _ => true) true 24 v d ps) :
    ∃ (s : St) (vl : Value), v = .agg #[.int .i64 s.kind, vl, .bool s.isSealed, .int .i64 s.to] ∧ Rd W vl s.L := by
  obtain ⟨fuel, hv⟩ := hT
  obtain ⟨y0, y1, y2, y3, m', hx', hl, u0, u1, u2, u3⟩ := Go.Joins.trod_struct4 Try.underlying24 hv
  rw [Try.cells_state] at hl
  obtain ⟨c0, c1, c2, c3, hc⟩ : ∃ c0 c1 c2 c3, v.cells.toList = [c0, c1, c2, c3] := by
    match hcs : v.cells.toList, hl with
    | [a, b, c, d], _ => exact ⟨a, b, c, d, rfl⟩
  rw [hc] at u0 u1 u2 u3
  simp only [Try.cells_int, Try.cells_bool, Try.cells_ints, List.drop, List.take] at u0 u1 u2 u3
  obtain ⟨k, e0, _, _⟩ := DataW.trod_int Try.underlying3 u0
  obtain ⟨a, len, cap, zs, rfl, hrow⟩ := open_ints_row u1
  obtain ⟨b, e2, _⟩ := DataW.trod_bool Try.underlying4 u2
  obtain ⟨t, e3, _, _⟩ := DataW.trod_int Try.underlying3 u3
  simp only [List.cons.injEq, and_true] at e0 e2 e3
  subst e0 e2 e3
  refine ⟨⟨k, zs.take len, b, t⟩, .slice a len cap, ?_, hrow.rd⟩
  cases v <;> simp [Value.cells, Value.okWide, Try.underlying24] at hc hok ⊢
  rename_i cs
  obtain ⟨l⟩ := cs
  simpa using hc

theorem open_op {W : World} {v : Value} {d : DataW H} {ps : List MemPlace} (hok : Value.okWide Try.prog W .any 0 26 v) (hT : DataW.Trod enc Try.prog W 0 (fun _ => true) true 26 v d ps) :
    ∃ o : Op3, v = .agg #[.int .i64 o.code, .int .i64 o.a, .int .i64 o.b] := by
  obtain ⟨fuel, hv⟩ := hT
  obtain ⟨y0, y1, y2, m', hx', hl, u0, u1, u2⟩ := trod_struct3 Try.underlying26 hv
  rw [Try.cells_op] at hl
  obtain ⟨c0, c1, c2, hc⟩ : ∃ c0 c1 c2, v.cells.toList = [c0, c1, c2] := by
    match hcs : v.cells.toList, hl with
    | [a, b, c], _ => exact ⟨a, b, c, rfl⟩
  rw [hc] at u0 u1 u2
  simp only [Try.cells_int, List.drop, List.take] at u0 u1 u2
  obtain ⟨k, e0, _, _⟩ := DataW.trod_int Try.underlying3 u0
  obtain ⟨a, e1, _, _⟩ := DataW.trod_int Try.underlying3 u1
  obtain ⟨b, e2, _, _⟩ := DataW.trod_int Try.underlying3 u2
  simp only [List.cons.injEq, and_true] at e0 e1 e2
  subst e0 e1 e2
  refine ⟨⟨k, a, b⟩, ?_⟩
  cases v <;> simp [Value.cells, Value.okWide, Try.underlying26] at hc hok ⊢
  rename_i cs
  obtain ⟨l⟩ := cs
  simpa using hc
end
end Go.Proofs.Ytaoagaokocnehaa
