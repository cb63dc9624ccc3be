/-
  What comes in: slices of ints.
-/
import Derived.Test.YtpckjinlopmbcaaRd
namespace Go.Proofs.Ytpckjinlopmbcaa
set_option linter.unusedVariables false
set_option maxRecDepth 100000
set_option linter.unusedSimpArgs false
open Go.RowKit

/-- WHAT THE WALK IS TOLD OF A SLICE OF INTEGERS THAT CAME IN. -/
def IsRow (k : IntKind) (w : World) (a : Option Addr) (len cap : Nat) (zs : List Int) : Prop :=
  (a = none ∧ len = 0 ∧ cap = 0 ∧ zs = []) ∨
  ∃ x, a = some x ∧ len ≤ cap ∧ cap ≤ maxLen ∧ zs.length = cap ∧ (∀ i, i < zs.length → w.cell? (x.add i) = some (.int k (zs.getD i 0))) ∧ ∀ n ∈ zs, (Lit.int k n).wf = true

theorem IsRow.le {k : IntKind} {w : World} {a : Option Addr} {len cap : Nat} {zs : List Int} (h : IsRow k w a len cap zs) : len ≤ zs.length ∧ zs.length = cap ∧ cap ≤ 9223372036854775807 := by
  rcases h with ⟨_, rfl, rfl, rfl⟩ | ⟨x, _, h1, h2, h3, _⟩
  · simp
  · simp only [maxLen] at h2; omega
theorem IsRow.cell {k : IntKind} {w : World} {a : Option Addr} {len cap : Nat} {zs : List Int} (h : IsRow k w a len cap zs) {i : Nat} (hi : i < len) : ∃ b o, a = some ⟨b, o, none⟩ ∧ w.cell? ⟨b, o + i, none⟩ = some (.int k (zs.getD i 0)) ∧ b < w.heap.size := by
  rcases h with ⟨_, rfl, rfl, rfl⟩ | ⟨x, rfl, h1, h2, h3, h4, _⟩
  · omega
  · have hc := h4 i (by omega)
    have hs := World.cell?_spot (h4 0 (by omega))
    obtain ⟨b, o, spot⟩ := x
    have : spot = none := by simpa [Addr.add] using hs
    subst this
    have hadd : (⟨b, o, none⟩ : Addr).add i = ⟨b, o + i, none⟩ := by unfold Addr.add; split <;> simp_all
    rw [hadd] at hc
    exact ⟨b, o, rfl, hc, World.block_lt_of_cell? _ _ hc⟩
theorem IsRow.one {k : IntKind} {w : World} {a : Option Addr} {len cap : Nat} {zs : List Int} (h : IsRow k w a len cap zs) (hl : 0 < len) : ∃ b o, a = some ⟨b, o, none⟩ ∧ b < w.heap.size ∧ ∀ i, i < len → w.cell? ⟨b, o + i, none⟩ = some (.int k (zs.getD i 0)) := by
  obtain ⟨b, o, rfl, _, hb⟩ := h.cell hl
  refine ⟨b, o, rfl, hb, fun i hi => ?_⟩
  obtain ⟨b', o', e, hc, _⟩ := h.cell hi
  simp at e
  obtain ⟨rfl, rfl⟩ := e
  exact hc

theorem IsRow.rd {w : World} {a : Option Addr} {len cap : Nat} {zs : List Int} (h : IsRow .i64 w a len cap zs) : Rd w (.slice a len cap) (zs.take len) := by
  obtain ⟨h1, h2, h3⟩ := h.le
  have e : (zs.take len).length = len := by simp; omega
  refine ⟨a, cap, by rw [e], by omega, h3, fun hl => ?_⟩
  obtain ⟨b, o, rfl, hb, hc⟩ := h.one (by omega)
  refine ⟨b, o, rfl, hb, fun i hi => ?_⟩
  rw [hc i (by omega)]
  simp [List.getD_eq_getElem?_getD, List.getElem?_take, show i < len by omega]
end Go.Proofs.Ytpckjinlopmbcaa
