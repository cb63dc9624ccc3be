/-
  Calls of a net as arguments, opened to their cells.
-/
import Derived.Test.YtjbmfmhibmnaiaaNt8
import Derived.Test.YtjbmfmhibmnaiaaOpen
import Derived.Test.YtjbmfmhibmnaiaaIn
import Derived.Lib.SmallJoins
import Derived.ProofKit
import Derived.OpenShut
namespace Go.Proofs.Ytjbmfmhibmnaiaa
set_option linter.unusedVariables false
set_option maxRecDepth 100000
set_option linter.unusedSimpArgs false
open Go.ChangeShapes Go.WideShapes Go.ChangeAt Go.RowKit Go.Deep

theorem Try.cells_msgN : Try.prog.cellsOf 48 = 5 := by kernel_rfl
theorem Try.cells_opN : Try.prog.cellsOf 50 = 7 := by kernel_rfl
theorem Try.cells_intN : Try.prog.cellsOf 3 = 1 := by kernel_rfl
theorem Try.cells_bytesN : Try.prog.cellsOf 46 = 1 := by kernel_rfl
section
variable {H : Type} {enc : TypeId × Value → H} {P : Program} {w : World} {base : Nat} {spare : Nat → Bool} {held : Bool}
theorem trod_struct5 {t : TypeId} {f0 f1 f2 f3 f4 : Field} {fuel : Nat} {cs : List Value} {x : DataW H × List MemPlace} (ht : P.underlying t = some (.struct #[f0, f1, f2, f3, f4])) (h : DataW.trod enc P w base spare held fuel t cs = some x) :
    ∃ y0 y1 y2 y3 y4 n, cs.length = P.cellsOf t ∧ DataW.trod enc P w base spare held n f0.type ((cs.drop f0.offset).take (P.cellsOf f0.type)) = some y0 ∧
      DataW.trod enc P w base spare held n f1.type ((cs.drop f1.offset).take (P.cellsOf f1.type)) = some y1 ∧ DataW.trod enc P w base spare held n f2.type ((cs.drop f2.offset).take (P.cellsOf f2.type)) = some y2 ∧
      DataW.trod enc P w base spare held n f3.type ((cs.drop f3.offset).take (P.cellsOf f3.type)) = some y3 ∧ DataW.trod enc P w base spare held n f4.type ((cs.drop f4.offset).take (P.cellsOf f4.type)) = some y4 := by
  obtain ⟨xs, n, _, rfl, hl, hlen, hf⟩ := DataW.trod_struct ht h
  match xs, hlen with
  | [y0, y1, y2, y3, y4], _ => exact ⟨y0, y1, y2, y3, y4, n, hl, by simpa using hf 0 f0 rfl, by simpa using hf 1 f1 rfl, by simpa using hf 2 f2 rfl, by simpa using hf 3 f3 rfl, by simpa using hf 4 f4 rfl⟩
end
section
variable {H : Type} {enc : TypeId × Value → H} {W : World}
theorem open_bytes_row {n : Nat} {c : Value} {x : DataW H × List MemPlace} (h : DataW.trod enc Try.prog W 0 (fun _ => true) true n 46 [c] = some x) : ∃ bs : List Int, Rb W c bs := by
  rcases open_ints Try.underlying46 Try.underlying5 (by kernel_rfl) h with ⟨hcs, _⟩ | ⟨x, l, cp, zs, hcs, _, hl, hm, hz, _, hcell, hwz⟩
  · simp at hcs
    subst hcs
    exact ⟨[], rb_nil W⟩
  · simp at hcs
    subst hcs
    have hr : IsRow .u8 W (some x) l cp zs := .inr ⟨_, rfl, hl, hm, by simpa using hz, hcell, hwz⟩
    obtain ⟨h1, h2, h3⟩ := hr.le
    have e : (zs.take l).length = l := by simp; omega
    refine ⟨zs.take l, some x, cp, by rw [e], by omega, h3, fun h0 => ?_⟩
    obtain ⟨b, o, e2, hb, hc⟩ := hr.one (by omega)
    refine ⟨b, o, e2, hb, fun i hi => ?_⟩
    rw [hc i (by omega)]
    simp [List.getD_eq_getElem?_getD, List.getElem?_take, show i < l by omega]
theorem open_opN {n : Nat} {cs : List Value} {y : DataW H × List MemPlace} (h : DataW.trod enc Try.prog W 0 (fun _ => true) true n 50 cs = some y) :
    ∃ (o : OpN) (v : Value), cs = [.int .i64 o.kind, .int .i64 o.i, .int .i64 o.m.f, .int .i64 o.m.t, .int .i64 o.m.k, .int .i64 o.m.i, v] ∧ Rb W v o.m.b := by
  obtain ⟨y0, y1, y2, m', hx', hl, u0, u1, u2⟩ := trod_struct3 Try.underlying50 h
  rw [Try.cells_opN] at hl
  obtain ⟨c0, c1, c2, c3, c4, c5, c6, rfl⟩ : ∃ c0 c1 c2 c3 c4 c5 c6, cs = [c0, c1, c2, c3, c4, c5, c6] := by
    match cs, hl with
    | [a, b, c, d, e, f, g], _ => exact ⟨a, b, c, d, e, f, g, rfl⟩
  simp only [Try.cells_intN, Try.cells_msgN, List.drop, List.take] at u0 u1 u2
  obtain ⟨k, e0, _, _⟩ := DataW.trod_int Try.underlying3 u0
  obtain ⟨i, e1, _, _⟩ := DataW.trod_int Try.underlying3 u1
  obtain ⟨z0, z1, z2, z3, z4, n', hl2, v0, v1, v2, v3, v4⟩ := trod_struct5 Try.underlying48 u2
  simp only [Try.cells_intN, Try.cells_bytesN, List.drop, List.take] at v0 v1 v2 v3 v4
  obtain ⟨a0, g0, _, _⟩ := DataW.trod_int Try.underlying3 v0
  obtain ⟨a1, g1, _, _⟩ := DataW.trod_int Try.underlying3 v1
  obtain ⟨a2, g2, _, _⟩ := DataW.trod_int Try.underlying3 v2
  obtain ⟨a3, g3, _, _⟩ := DataW.trod_int Try.underlying3 v3
  obtain ⟨bs, hb⟩ := open_bytes_row v4
  simp only [List.cons.injEq, and_true] at e0 e1 g0 g1 g2 g3
  subst e0 e1 g0 g1 g2 g3
  exact ⟨⟨k, i, ⟨a0, a1, a2, a3, bs⟩⟩, c6, rfl, hb⟩
theorem open_opsN {fuel : Nat} {x : DataW H × List MemPlace} (a : Option Addr) (len cap : Nat) (h : DataW.trod enc Try.prog W 0 (fun _ => true) true fuel 38 [.slice a len cap] = some x) :
    len ≤ 9223372036854775807 ∧ ∃ (f : Nat → OpN) (vb : Nat → Value), IsOpsN W a len f vb := by
  rcases open_slice Try.underlying38 h with ⟨hcs, _⟩ | ⟨a', len', cap', m', n, D, Pl, hcs, _, hl, hm, hmm, _, hi⟩
  · simp at hcs
    obtain ⟨rfl, rfl, rfl⟩ := hcs
    exact ⟨by omega, fun _ => ⟨0, 0, noMsg⟩, fun _ => .slice none 0 0, fun h => by omega⟩
  · simp at hcs
    obtain ⟨rfl, rfl, rfl⟩ := hcs
    simp at hmm
    subst hmm
    have key : ∀ i, i < len → ∃ (o : OpN) (v : Value), Rb W v o.m.b ∧ ∀ j, j < 7 → W.cell? (a'.add (i * 7 + j)) = [Value.int .i64 o.kind, .int .i64 o.i, .int .i64 o.m.f, .int .i64 o.m.t, .int .i64 o.m.k, .int .i64 o.m.i, v][j]? := by
      intro i hil
      obtain ⟨cs', hc, htr⟩ := hi i (by omega)
      rw [Try.cells_opN] at hc
      obtain ⟨_, hcl, hat⟩ := World.cells?_some hc
      obtain ⟨o, v, e, hb⟩ := open_opN htr
      refine ⟨o, v, hb, fun j hj => ?_⟩
      rw [← Go.Deep.add_add, hat j hj, e]
    simp only [maxLen] at hm
    refine ⟨by omega, fun i => if h : i < len then (key i h).choose else ⟨0, 0, noMsg⟩, fun i => if h : i < len then (key i h).choose_spec.choose else .slice none 0 0, fun hl0 => ?_⟩
    have hc0 := (key 0 hl0).choose_spec.choose_spec.2 0 (by omega)
    have hs := World.cell?_spot hc0
    obtain ⟨b, o, spot⟩ := a'
    have : spot = none := by simpa [Addr.add] using hs
    subst this
    refine ⟨b, o, rfl, ?_, fun i hil => ?_⟩
    · have := World.block_lt_of_cell? _ _ hc0
      simpa [addr_plain] using this
    · have h2 := (key i hil).choose_spec.choose_spec
      simp only [dif_pos hil]
      generalize (key i hil).choose_spec.choose = v at *
      generalize (key i hil).choose = op at *
      have e : ∀ j, (⟨b, o, none⟩ : Addr).add (i * 7 + j) = ⟨b, o + i * 7 + j, none⟩ := fun j => by rw [addr_plain, Nat.add_assoc]
      have hc : ∀ j, j < 7 → W.cell? ⟨b, o + i * 7 + j, none⟩ = [Value.int .i64 op.kind, .int .i64 op.i, .int .i64 op.m.f, .int .i64 op.m.t, .int .i64 op.m.k, .int .i64 op.m.i, v][j]? := fun j hj => by rw [← e j]; exact h2.2 j hj
      exact ⟨hc 0 (by omega), hc 1 (by omega), hc 2 (by omega), hc 3 (by omega), hc 4 (by omega), hc 5 (by omega), hc 6 (by omega), h2.1⟩
end
end Go.Proofs.Ytjbmfmhibmnaiaa
