/-
  Pairs in plain Lean: find, has, put, delete by recursion.
-/
import Derived.Test.YtaoagaokocnehaaO
namespace Go.Proofs.Ytaoagaokocnehaa
set_option linter.unusedVariables false
set_option linter.unusedSimpArgs false

theorem foundB_cons (k v : Int) (r : List Int) (key : Int) : foundB (k :: v :: r) key = if k < key then foundB r key else k == key := by
  unfold foundB
  rw [findI]
  by_cases h : k < key
  · rw [if_pos h, if_pos h]
    have e : 2 + findI r key = findI r key + 1 + 1 := by omega
    simp only [e, List.length_cons, List.getD_cons_succ, Nat.add_lt_add_iff_right]
  · rw [if_neg h, if_neg h]
    simp
theorem foundB_nil (key : Int) : foundB [] key = false := by simp [foundB, findI]
theorem hasI_cons (k v : Int) (r : List Int) (key : Int) : hasI (k :: v :: r) key = if k < key then hasI r key else if k = key then v else -1 := by
  unfold hasI
  rw [foundB_cons, findI]
  by_cases h : k < key
  · rw [if_pos h, if_pos h, if_pos h]
    have e : 2 + findI r key = findI r key + 1 + 1 := by omega
    simp only [e, List.getD_cons_succ]
  · rw [if_neg h, if_neg h, if_neg h]
    simp only [List.getD_cons_zero, List.getD_cons_succ, Nat.zero_add]
    by_cases h2 : k = key
    · simp [h2]
    · simp [h2]
theorem hasI_nil (key : Int) : hasI [] key = -1 := by simp [hasI, foundB, findI]
theorem hasI_one (k key : Int) : hasI [k] key = if k < key then -1 else if k = key then 0 else -1 := by
  unfold hasI foundB
  rw [findI]
  by_cases h : k < key
  · simp [h]
  · simp [h]

/-- put by recursion. -/
def putR : List Int → Int → Int → List Int
  | k :: v :: r, key, n => if k < key then k :: v :: putR r key n else if k = key then k :: n :: r else key :: n :: k :: v :: r
  | _, key, n => [key, n]
def delR : List Int → Int → List Int
  | k :: v :: r, key => if k < key then k :: v :: delR r key else r
  | l, _ => l

theorem putG (key n : Int) : ∀ l : List Int, l.length % 2 = 0 → (if foundB l key then l.set (findI l key + 1) n else l.take (findI l key) ++ [key, n] ++ l.drop (findI l key)) = putR l key n
  | k :: v :: r, h => by
    have ih := putG key n r (by simp at h; omega)
    rw [foundB_cons, findI, putR]
    by_cases c : k < key
    · rw [if_pos c, if_pos c, if_pos c, ← ih]
      have e : 2 + findI r key = findI r key + 1 + 1 := by omega
      rw [e]
      split <;> simp
    · rw [if_neg c, if_neg c, if_neg c]
      by_cases h2 : k = key
      · simp [h2]
      · simp [h2]
  | [k], h => by simp at h
  | [], _ => by simp [foundB_nil, findI, putR]
theorem putL_eq {l : List Int} {key n : Int} (he : l.length % 2 = 0) (hb : putB l key = true) : putL l key n = putR l key n := by
  rw [← putG key n l he]
  unfold putL
  unfold putB at hb
  by_cases hf : foundB l key = true
  · rw [if_pos hf, if_pos hf]
  · rw [if_neg hf, if_neg hf]
    have : ¬ 128 ≤ l.length := by simp [hf] at hb; omega
    rw [if_neg this]
theorem delL_eq {l : List Int} {key : Int} (he : l.length % 2 = 0) : delL l key = delR l key := by
  unfold delL
  match l, he with
  | k :: v :: r, h =>
    have ih := delL_eq (l := r) (key := key) (by simp at h; omega)
    unfold delL at ih
    rw [findI, delR]
    by_cases c : k < key
    · rw [if_pos c, if_pos c, ← ih]
      have e : 2 + findI r key = findI r key + 1 + 1 := by omega
      simp [e]
    · rw [if_neg c, if_neg c]
      simp
  | [k], h => simp at h
  | [], _ => rfl
theorem putR_length (key n : Int) : ∀ l : List Int, l.length % 2 = 0 → (putR l key n).length = if foundB l key then l.length else l.length + 2
  | k :: v :: r, h => by
    have ih := putR_length key n r (by simp at h; omega)
    rw [foundB_cons, putR]
    by_cases c : k < key
    · rw [if_pos c, if_pos c]
      simp only [List.length_cons, ih]
      split <;> omega
    · rw [if_neg c, if_neg c]
      by_cases h2 : k = key
      · simp [h2]
      · simp [h2]
  | [k], h => by simp at h
  | [], _ => by simp [foundB_nil, putR]
theorem putR_even {key n : Int} {l : List Int} (he : l.length % 2 = 0) : (putR l key n).length % 2 = 0 := by
  rw [putR_length key n l he]
  split <;> omega
theorem found_putR (key n key2 : Int) : ∀ l : List Int, l.length % 2 = 0 → foundB (putR l key n) key2 = (key2 == key || foundB l key2)
  | k :: v :: r, h => by
    have ih := found_putR key n key2 r (by simp at h; omega)
    rw [putR, foundB_cons]
    by_cases c : k < key
    · rw [if_pos c, foundB_cons, ih]
      by_cases c2 : k < key2
      · rw [if_pos c2, if_pos c2]
      · rw [if_neg c2, if_neg c2]
        have : ¬ key2 = key := by omega
        simp [this]
    · rw [if_neg c]
      by_cases h2 : k = key
      · subst h2
        rw [if_pos rfl, foundB_cons]
        by_cases c2 : k < key2
        · rw [if_pos c2]; have : ¬ key2 = k := by omega
          simp [this]
        · rw [if_neg c2]
          by_cases h3 : k = key2 <;> simp [h3]; intro h4; exact absurd h4.symm h3
      · rw [if_neg h2, foundB_cons, foundB_cons]
        by_cases c2 : key < key2
        · rw [if_pos c2]; have : ¬ key2 = key := by omega
          simp [this]
        · rw [if_neg c2]
          by_cases h3 : key = key2
          · simp [h3]
          · have h4 : ¬ k < key2 := by omega
            have h5 : ¬ k = key2 := by omega
            have h6 : ¬ key2 = key := by omega
            rw [if_neg h4, beq_eq_false_iff_ne.2 h3, beq_eq_false_iff_ne.2 h5, beq_eq_false_iff_ne.2 h6]; rfl
  | [k], h => by simp at h
  | [], _ => by
    rw [putR, foundB_cons, foundB_nil]
    · by_cases c : key < key2
      · have : ¬ key2 = key := by omega
        simp [c, this]
      · by_cases h3 : key = key2 <;> simp [c, h3]; rw [beq_eq_false_iff_ne.2 h3, beq_eq_false_iff_ne.2 (fun e => h3 e.symm)]
    · simp
theorem has_putR (key n key2 : Int) : ∀ l : List Int, l.length % 2 = 0 → hasI (putR l key n) key2 = if key2 = key then n else hasI l key2
  | k :: v :: r, h => by
    have ih := has_putR key n key2 r (by simp at h; omega)
    rw [putR, hasI_cons]
    by_cases c : k < key
    · rw [if_pos c, hasI_cons, ih]
      by_cases c2 : k < key2
      · rw [if_pos c2, if_pos c2]
      · rw [if_neg c2, if_neg c2]
        have : ¬ key2 = key := by omega
        simp [this]
    · rw [if_neg c]
      by_cases h2 : k = key
      · subst h2
        rw [if_pos rfl, hasI_cons]
        by_cases c2 : k < key2
        · rw [if_pos c2]; have : ¬ key2 = k := by omega
          simp [this, c2]
        · rw [if_neg c2]
          by_cases h3 : k = key2
          · simp [h3]
          · have : ¬ key2 = k := by omega
            simp [h3, this, c2]
      · rw [if_neg h2, hasI_cons, hasI_cons]
        by_cases c2 : key < key2
        · rw [if_pos c2]; have : ¬ key2 = key := by omega
          simp [this]
        · rw [if_neg c2]
          by_cases h3 : key = key2
          · simp [h3]
          · have h4 : ¬ k < key2 := by omega
            have h5 : ¬ k = key2 := by omega
            have h6 : ¬ key2 = key := by omega
            simp [h3, h4, h5, h6]
  | [k], h => by simp at h
  | [], _ => by
    rw [putR, hasI_cons, hasI_nil]
    · by_cases c : key < key2
      · have : ¬ key2 = key := by omega
        simp [c, this]
      · by_cases h3 : key = key2
        · simp [h3]
        · have : ¬ key2 = key := by omega
          simp [c, h3, this]
    · simp
theorem has_unfound {l : List Int} {key : Int} (h : foundB l key = false) : hasI l key = -1 := by unfold hasI; rw [h]; rfl
end Go.Proofs.Ytaoagaokocnehaa
