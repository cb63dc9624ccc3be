/-
  Names that lie in a map are whole numbers of their kind.
-/
import Derived.Test.YtpckjinlopmbcaaFsMa
namespace Go.Proofs.Ytpckjinlopmbcaa
set_option linter.unusedVariables false
set_option maxRecDepth 100000
set_option linter.unusedSimpArgs false
open Go.RowKit Go.Maps
theorem mem_insertW {x y : Lit × DataW Unit} {l : List (Lit × DataW Unit)} (h : y ∈ DataW.insert x l) : y = x ∨ y ∈ l := by
  induction l with
  | nil => exact .inl (by simpa [DataW.insert] using h)
  | cons a l ih =>
    unfold DataW.insert at h
    split at h
    · simpa using h
    · rcases List.mem_cons.1 h with h | h
      · exact .inr (by simp [h])
      · rcases ih h with h | h
        · exact .inl h
        · exact .inr (by simp [h])
theorem mem_sortedW {y : Lit × DataW Unit} {l : List (Lit × DataW Unit)} (h : y ∈ l.foldr DataW.insert []) : y ∈ l := by
  induction l with
  | nil => simp at h
  | cons a l ih =>
    rcases mem_insertW h with h | h
    · simp [h]
    · simp [ih h]
theorem ownD_wf {w : World} {fb : Nat → Nat} {b : Nat} {l : Dir} (h : OwnD w fb b l) {x : Int × Nat} (hx : x ∈ l) : (Lit.int .i64 x.1).wf = true := by
  obtain ⟨es, clock, hb, F, hs, hD⟩ := h
  have hm : dirE fb x ∈ l.map (dirE fb) := List.mem_map.2 ⟨x, hx, rfl⟩
  have e : l.map (dirE fb) = (es.toList.map (WideElems.rg Try.prog 3 elF)).foldr DataW.insert [] := by
    unfold dirD at hD
    injection hD
  rw [e] at hm
  obtain ⟨y, hy, he⟩ := List.mem_map.1 (mem_sortedW hm)
  obtain ⟨z, hz⟩ := F.reads y hy
  have hk := WideElems.rd_key hz
  have : z = dirE fb x := by rw [← he]; simp [WideElems.rg, hz]
  rw [this] at hk
  rw [keyOf_int Try.underlying3] at hk
  cases hv : y.key <;> rw [hv] at hk <;> simp [mapKey, Try.underlying3, dirE] at hk
  obtain ⟨⟨rfl, hw⟩, rfl⟩ := hk
  exact hw
end Go.Proofs.Ytpckjinlopmbcaa
