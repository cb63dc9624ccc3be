/-
  Layer 4: queues and stacks in plain Lean.
-/
import Derived.Test.YtaoagaokocnehaaO
namespace Go.Proofs.Ytaoagaokocnehaa
set_option linter.unusedVariables false
set_option linter.unusedSimpArgs false

def Wi (l : List Int) : Prop := ∀ x ∈ l, -1099511627776 ≤ x ∧ x ≤ 1099511627776
theorem cut_in {x : Int} (h : -1099511627776 ≤ x ∧ x ≤ 1099511627776) : cutI x = x := by unfold cutI; rw [if_neg (by omega), if_neg (by omega)]
theorem within_of {l : List Int} (h : Wi l) : withinB l = true := by
  unfold withinB
  simp only [Bool.not_eq_true', List.any_eq_false, bne_iff_ne, ne_eq, Decidable.not_not]
  intro x hx
  exact (cut_in (h x hx)).symm
theorem may_of {k : Int} {l : List Int} (hk : k = 2 ∨ k = 3) (hl : l.length ≤ 64) (h : Wi l) : mayB (⟨k, l, false, 0⟩ : St) = true := by
  unfold mayB
  simp only
  rw [if_neg (by simp), if_neg (by omega), if_pos hk, within_of h]
  simp [hl]
theorem step_push {k : Int} {l : List Int} {x : Int} (hk : k = 2 ∨ k = 3) (hl : l.length < 64) (h : Wi l) (hx : -1099511627776 ≤ x ∧ x ≤ 1099511627776) :
    stepS ⟨k, l, false, 0⟩ ⟨3, x, 0⟩ = ((⟨k, l ++ [x], false, 0⟩ : St), (l.length : Int) + 1) := by
  have hm := may_of hk (by omega) h
  unfold stepS
  rw [if_neg (by simp [hm]), if_neg (by simp), if_neg (by simp), if_neg (by simp only; omega), if_pos (by simpa using hk)]
  unfold lineS
  rw [if_neg (by simp), if_pos ⟨rfl, hl⟩, cut_in hx]
theorem step_popq {l : List Int} (hl : l.length ≤ 64) (h0 : 0 < l.length) (h : Wi l) : stepS ⟨2, l, false, 0⟩ ⟨4, 0, 0⟩ = ((⟨2, l.drop 1, false, 0⟩ : St), l.getD 0 0) := by
  have hm := may_of (.inl rfl) hl h
  unfold stepS
  rw [if_neg (by simp [hm]), if_neg (by simp), if_neg (by simp), if_neg (by simp), if_pos (by simp)]
  unfold lineS
  rw [if_neg (by simp), if_neg (by simp), if_neg (by simp; intro e; simp [e] at h0), if_neg (by simp), if_pos rfl]
theorem step_pops {l : List Int} (hl : l.length ≤ 64) (h0 : 0 < l.length) (h : Wi l) : stepS ⟨3, l, false, 0⟩ ⟨4, 0, 0⟩ = ((⟨3, l.take (l.length - 1), false, 0⟩ : St), l.getD (l.length - 1) 0) := by
  have hm := may_of (.inr rfl) hl h
  unfold stepS
  rw [if_neg (by simp [hm]), if_neg (by simp), if_neg (by simp), if_neg (by simp), if_pos (by simp)]
  unfold lineS
  rw [if_neg (by simp), if_neg (by simp), if_neg (by simp; intro e; simp [e] at h0), if_neg (by simp), if_neg (by simp)]
theorem take_succ_getD : ∀ (l : List Int) (k : Nat), k < l.length → l.take (k + 1) = l.take k ++ [l.getD k 0]
  | [], k, h => by simp at h
  | x :: l, 0, _ => by simp
  | x :: l, k + 1, h => by
    have := take_succ_getD l k (by simpa using h)
    simp only [List.take_succ_cons, List.cons_append, this]
    simp
theorem getD_drop (l : List Int) (k i : Nat) : (l.drop k).getD i 0 = l.getD (k + i) 0 := by
  simp [List.getD_eq_getElem?_getD, List.getElem?_drop]
theorem getD_take (l : List Int) (k i : Nat) (h : i < k) : (l.take k).getD i 0 = l.getD i 0 := by
  simp [List.getD_eq_getElem?_getD, List.getElem?_take, h]
theorem Wi.sub {l m : List Int} (h : Wi l) (hs : ∀ x ∈ m, x ∈ l) : Wi m := fun x hx => h x (hs x hx)
theorem Wi.drop {l : List Int} (h : Wi l) (k : Nat) : Wi (l.drop k) := h.sub fun _ hx => List.mem_of_mem_drop hx
theorem Wi.take {l : List Int} (h : Wi l) (k : Nat) : Wi (l.take k) := h.sub fun _ hx => List.mem_of_mem_take hx
theorem Wi.snoc {l : List Int} {x : Int} (h : Wi l) (hx : -1099511627776 ≤ x ∧ x ≤ 1099511627776) : Wi (l ++ [x]) := by
  intro y hy
  rcases List.mem_append.1 hy with hy | hy
  · exact h y hy
  · rw [List.mem_singleton.1 hy]; exact hx
end Go.Proofs.Ytaoagaokocnehaa
